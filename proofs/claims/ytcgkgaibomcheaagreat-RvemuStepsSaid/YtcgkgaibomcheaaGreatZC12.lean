/- Joined out of this claim's texts: Part, At, Sg, W32, Enc, Tk. Conditions: those of each theorem. -/
import Derived.Test.YtcgkgaibomcheaaGreatZC01
import Derived.Test.YtcgkgaibomcheaaGreatZC07
import Derived.Test.YtcgkgaibomcheaaGreatZC06
import Derived.RowKit
import Derived.Test.YtcgkgaibomcheaaGreatZC11
import Derived.Test.YtcgkgaibomcheaaGreatZC08
import Derived.Test.YtcgkgaibomcheaaGreatZC03
set_option linter.unusedVariables false
set_option linter.unusedSimpArgs false
section
namespace Go.Proofs.YtcgkgaibomcheaaGreat.Part
open Go.RowKit Bits PRvemuRuns YtcgkgaibomcheaaGreatW.PrintWords YtcgkgaibomcheaaGreatW.PrintLast YtcgkgaibomcheaaGreatW.PrintMore
theorem bs_nat (v : BitVec 64) (lo n : Nat) (hl : lo ≤ 63) (hn : n ≤ 63) : (bs v (lo : Int) (n : Int)).toNat = v.toNat / 2 ^ lo % 2 ^ n := by
  refine Nat.eq_of_testBit_eq fun i => ?_
  rw [Nat.testBit_mod_two_pow, ← Nat.shiftRight_eq_div_pow, Nat.testBit_shiftRight, BitVec.testBit_toNat, BitVec.testBit_toNat]
  by_cases hi : i < 64
  · rw [bs_at v lo n (by omega) (by omega) i hi]
    simp
  · rw [BitVec.getLsbD_of_ge _ _ (by omega), BitVec.getLsbD_of_ge _ _ (by omega), Bool.and_false]
theorem part_eq (k : Nat) (hk : 70 ≤ k) (w : Nat) (hw : w < 4294967296) (lo n : Nat) (hl : lo ≤ 63) (hn : n ≤ 32) : ravelinref15_part.f k (w : Int) lo n = some ((w / 2 ^ lo % 2 ^ n : Nat) : Int) := by
  unfold ravelinref15_part.f
  have e : IntKind.u64.wrap (w : Int) = U (BitVec.ofNat 64 w) := by
    unfold U
    rw [BitVec.toNat_ofNat]
    simp only [IntKind.wrap, IntKind.bits, IntKind.signed, Bool.false_and, Bool.false_eq_true, if_false]
    omega
  rw [e, F1.ref_Bits_eq k hk]
  simp only [Option.bind_some]
  have h := bs_nat (BitVec.ofNat 64 w) lo n hl (by omega)
  have hm : (BitVec.ofNat 64 w).toNat = w := by rw [BitVec.toNat_ofNat]; omega
  rw [hm] at h
  have hlt : w / 2 ^ lo % 2 ^ n < 4294967296 := Nat.lt_of_le_of_lt (Nat.mod_le _ _) (Nat.lt_of_le_of_lt (Nat.div_le_self _ _) hw)
  congr 1
  unfold U
  rw [h]
  unfold wrap64
  omega
end Go.Proofs.YtcgkgaibomcheaaGreat.Part
end

section
namespace Go.Proofs.YtcgkgaibomcheaaGreat.At
open Go.RowKit Bits Part PRvemuRuns YtcgkgaibomcheaaGreatW.PrintWords YtcgkgaibomcheaaGreatW.PrintLast YtcgkgaibomcheaaGreatW.PrintMore
theorem at_eq (k : Nat) (hk : 70 ≤ k) (v : BitVec 64) (vi : Int) (hv : IntKind.u64.wrap vi = U v) (lo n tt : Nat) (hl : lo ≤ 63) (hn : n + tt ≤ 32) (ht : tt ≤ 31) : ravelinref15_at.f k vi lo n tt = some (((v.toNat / 2 ^ lo % 2 ^ n) <<< tt : Nat) : Int) := by
  unfold ravelinref15_at.f
  have e : IntKind.u64.wrap (tt : Int) = (tt : Int) := by
    simp only [IntKind.wrap, IntKind.bits, IntKind.signed, Bool.false_and, Bool.false_eq_true, if_false]
    omega
  rw [hv, F1.ref_Bits_eq k hk, e]
  simp only [Option.bind_some]
  rw [if_pos (by omega)]
  have h := bs_nat v lo n hl (by omega)
  have h1 : v.toNat / 2 ^ lo % 2 ^ n < 2 ^ n := Nat.mod_lt _ (Nat.pow_pos (by decide))
  have h2 : (2 : Nat) ^ n * 2 ^ tt ≤ 2 ^ 32 := by rw [← Nat.pow_add]; exact Nat.pow_le_pow_right (by decide) hn
  have h3 : (v.toNat / 2 ^ lo % 2 ^ n) * 2 ^ tt < 4294967296 := Nat.lt_of_lt_of_le (Nat.mul_lt_mul_of_pos_right h1 (Nat.pow_pos (by decide))) h2
  have h4 : v.toNat / 2 ^ lo % 2 ^ n < 4294967296 := Nat.lt_of_le_of_lt (Nat.le_mul_of_pos_right _ (Nat.pow_pos (by decide))) h3
  congr 1
  unfold U shl
  rw [h, Nat.shiftLeft_eq]
  have hm : min ((tt : Int)).toNat IntKind.u32.bits = tt := by show min (tt : Int).toNat 32 = tt; omega
  rw [hm]
  have h5 : ((v.toNat / 2 ^ lo % 2 ^ n : Nat) : Int) % 4294967296 = ((v.toNat / 2 ^ lo % 2 ^ n : Nat) : Int) := by omega
  rw [h5]
  simp only [IntKind.wrap, IntKind.bits, IntKind.signed, Bool.false_and, Bool.false_eq_true, if_false]
  rw [show ((2 : Int) ^ tt) = ((2 ^ tt : Nat) : Int) by simp, ← Int.natCast_mul]
  generalize (v.toNat / 2 ^ lo % 2 ^ n) * 2 ^ tt = q at h3
  omega
end Go.Proofs.YtcgkgaibomcheaaGreat.At
end

section
namespace Go.Proofs.YtcgkgaibomcheaaGreat.Sg
open Go.RowKit Bits PRvemuRuns YtcgkgaibomcheaaGreatW.PrintWords YtcgkgaibomcheaaGreatW.PrintLast YtcgkgaibomcheaaGreatW.PrintMore
theorem signed_eq (k : Nat) (hk : 65 ≤ k) (v n : Int) : ravelinref15_signed.f k v n = some (sx (BitVec.ofInt 64 v) n).toInt := by
  unfold ravelinref15_signed.f
  rw [wrapU, F1.ref_Sext_eq k hk]
  rfl
end Go.Proofs.YtcgkgaibomcheaaGreat.Sg
end

section
namespace Go.Proofs.YtcgkgaibomcheaaGreat.W32
theorem or_up {d k r : Nat} (h : d < 2 ^ k) : d ||| r <<< k = d + r * 2 ^ k := by
  rw [Nat.or_comm, ← Nat.shiftLeft_add_eq_or_of_lt h, Nat.shiftLeft_eq]
  omega
theorem ac3 (a b c : Nat) : (a ||| b) ||| c = (a ||| c) ||| b := by ac_rfl
theorem ac5 (a b c d e : Nat) : (((a ||| e) ||| b) ||| d) ||| c = a ||| b ||| c ||| d ||| e := by ac_rfl
theorem ac6 (a b c d e f : Nat) : (((a ||| (b ||| f)) ||| d) ||| e) ||| c = a ||| b ||| c ||| d ||| e ||| f := by ac_rfl
theorem ac6r (a b c d e f : Nat) : ((((a ||| b) ||| d) ||| e) ||| c) ||| f = (((a ||| (b ||| f)) ||| d) ||| e) ||| c := by ac_rfl
theorem ac4 (a b c d : Nat) : ((a ||| b) ||| c) ||| d = (c ||| a) ||| (b ||| d) := by ac_rfl
theorem ac4j (a b c d : Nat) : ((a ||| b) ||| c) ||| d = c ||| (b ||| (a ||| d)) := by ac_rfl
theorem horner5 (a b c d e k1 k2 k3 k4 : Nat) (ha : a < 2 ^ k1) (hb : b < 2 ^ k2) (hc : c < 2 ^ k3) (hd : d < 2 ^ k4) :
    a ||| b <<< k1 ||| c <<< (k1 + k2) ||| d <<< (k1 + k2 + k3) ||| e <<< (k1 + k2 + k3 + k4) = a + (b + (c + (d + e * 2 ^ k4) * 2 ^ k3) * 2 ^ k2) * 2 ^ k1 := by
  rw [← or_up hd, ← or_up hc, ← or_up hb, ← or_up ha]
  simp only [Nat.shiftLeft_or_distrib, ← Nat.shiftLeft_add]
  rw [show k2 + k1 = k1 + k2 by omega, show k3 + k2 + k1 = k1 + k2 + k3 by omega, show k4 + k3 + k2 + k1 = k1 + k2 + k3 + k4 by omega]
  simp only [Nat.or_assoc]
theorem horner6 (a b c d e f k1 k2 k3 k4 k5 : Nat) (ha : a < 2 ^ k1) (hb : b < 2 ^ k2) (hc : c < 2 ^ k3) (hd : d < 2 ^ k4) (he : e < 2 ^ k5) :
    a ||| b <<< k1 ||| c <<< (k1 + k2) ||| d <<< (k1 + k2 + k3) ||| e <<< (k1 + k2 + k3 + k4) ||| f <<< (k1 + k2 + k3 + k4 + k5) = a + (b + (c + (d + (e + f * 2 ^ k5) * 2 ^ k4) * 2 ^ k3) * 2 ^ k2) * 2 ^ k1 := by
  rw [← or_up he, ← or_up hd, ← or_up hc, ← or_up hb, ← or_up ha]
  simp only [Nat.shiftLeft_or_distrib, ← Nat.shiftLeft_add]
  rw [show k2 + k1 = k1 + k2 by omega, show k3 + k2 + k1 = k1 + k2 + k3 by omega, show k4 + k3 + k2 + k1 = k1 + k2 + k3 + k4 by omega, show k5 + k4 + k3 + k2 + k1 = k1 + k2 + k3 + k4 + k5 by omega]
  simp only [Nat.or_assoc]
theorem form_u (c v d : Nat) (hc : c < 128) (hd : d < 32) : (c ||| v <<< 12) ||| d <<< 7 = c + d * 128 + v * 4096 := by
  have hc' : c < 2 ^ 7 := hc
  rw [ac3, or_up hc', or_up (k := 12) (by omega)]
theorem form_i (c v d s f : Nat) (hc : c < 128) (hd : d < 32) (hs : s < 32) (hf : f < 8) : (((c ||| v <<< 20) ||| d <<< 7) ||| s <<< 15) ||| f <<< 12 = c + d * 128 + f * 4096 + s * 32768 + v * 1048576 := by
  have h := horner5 c d f s v 7 5 3 5 hc hd hf hs
  rw [ac5]
  refine Eq.trans h ?_
  omega
theorem form_s (c v1 v2 s t f : Nat) (hc : c < 128) (h1 : v1 < 32) (hs : s < 32) (ht : t < 32) (hf : f < 8) : (((c ||| (v1 <<< 7 ||| v2 <<< 25)) ||| s <<< 15) ||| t <<< 20) ||| f <<< 12 = c + v1 * 128 + f * 4096 + s * 32768 + t * 1048576 + v2 * 33554432 := by
  have h := horner6 c v1 f s t v2 7 5 3 5 5 hc h1 hf hs ht
  rw [ac6]
  refine Eq.trans h ?_
  omega
theorem form_r (c d s t f g : Nat) (hc : c < 128) (hd : d < 32) (hs : s < 32) (ht : t < 32) (hf : f < 8) : ((((c ||| d <<< 7) ||| s <<< 15) ||| t <<< 20) ||| f <<< 12) ||| g <<< 25 = c + d * 128 + f * 4096 + s * 32768 + t * 1048576 + g * 33554432 := by
  rw [ac6r]
  exact form_s c d g s t f hc hd hs ht hf
theorem form_b (c v1 v2 v3 v4 s t f : Nat) (hc : c < 128) (h1 : v1 < 16) (h2 : v2 < 64) (h3 : v3 < 2) (hs : s < 32) (ht : t < 32) (hf : f < 8) :
    (((c ||| (((v1 <<< 8 ||| v2 <<< 25) ||| v3 <<< 7) ||| v4 <<< 31)) ||| s <<< 15) ||| t <<< 20) ||| f <<< 12 = c + v3 * 128 + v1 * 256 + f * 4096 + s * 32768 + t * 1048576 + v2 * 33554432 + v4 * 2147483648 := by
  have e1 : v3 <<< 7 ||| v1 <<< 8 = (v3 + v1 * 2) <<< 7 := by
    rw [← or_up (d := v3) (k := 1) (r := v1) h3, Nat.shiftLeft_or_distrib, ← Nat.shiftLeft_add]
  have e2 : v2 <<< 25 ||| v4 <<< 31 = (v2 + v4 * 64) <<< 25 := by
    rw [← or_up (d := v2) (k := 6) (r := v4) h2, Nat.shiftLeft_or_distrib, ← Nat.shiftLeft_add]
  rw [ac4 (v1 <<< 8), e1, e2, form_s c (v3 + v1 * 2) (v2 + v4 * 64) s t f hc (by omega) hs ht hf]
  omega
theorem form_j (c v1 v2 v3 v4 d : Nat) (hc : c < 128) (h1 : v1 < 1024) (h2 : v2 < 2) (h3 : v3 < 256) (hd : d < 32) :
    (c ||| (((v1 <<< 21 ||| v2 <<< 20) ||| v3 <<< 12) ||| v4 <<< 31)) ||| d <<< 7 = c + d * 128 + v3 * 4096 + v2 * 1048576 + v1 * 2097152 + v4 * 2147483648 := by
  have e1 : v1 <<< 21 ||| v4 <<< 31 = (v1 + v4 * 1024) <<< 21 := by
    rw [← or_up (d := v1) (k := 10) (r := v4) h1, Nat.shiftLeft_or_distrib, ← Nat.shiftLeft_add]
  have e2 : v2 <<< 20 ||| (v1 + v4 * 1024) <<< 21 = (v2 + (v1 + v4 * 1024) * 2) <<< 20 := by
    rw [← or_up (d := v2) (k := 1) (r := v1 + v4 * 1024) h2, Nat.shiftLeft_or_distrib, ← Nat.shiftLeft_add]
  have e3 : v3 <<< 12 ||| (v2 + (v1 + v4 * 1024) * 2) <<< 20 = (v3 + (v2 + (v1 + v4 * 1024) * 2) * 256) <<< 12 := by
    rw [← or_up (d := v3) (k := 8) (r := v2 + (v1 + v4 * 1024) * 2) h3, Nat.shiftLeft_or_distrib, ← Nat.shiftLeft_add]
  rw [ac4j (v1 <<< 21), e1, e2, e3, form_u c _ d hc hd]
  omega
theorem and_low (n : Nat) : n &&& 127 = n % 128 := Nat.and_two_pow_sub_one_eq_mod n 7
theorem and_mid (n lo b : Nat) : n &&& ((2 ^ b - 1) <<< lo) = (n >>> lo % 2 ^ b) <<< lo := by
  refine Nat.eq_of_testBit_eq fun i => ?_
  rw [Nat.testBit_and, Nat.testBit_shiftLeft, Nat.testBit_shiftLeft, Nat.testBit_mod_two_pow, Nat.testBit_two_pow_sub_one, Nat.testBit_shiftRight]
  by_cases h : i ≥ lo
  · rw [show lo + (i - lo) = i by omega]
    cases n.testBit i <;> simp [h]
  · simp [h]
theorem mask_i (n : Nat) : n &&& 28799 = n % 128 + n / 4096 % 8 * 4096 := by
  have e : (28799 : Nat) = (2 ^ 7 - 1) <<< 0 ||| (2 ^ 3 - 1) <<< 12 := by decide
  rw [e, Nat.and_or_distrib_left, and_mid, and_mid, Nat.shiftLeft_zero, Nat.shiftRight_zero, or_up (by omega), Nat.shiftRight_eq_div_pow]
end Go.Proofs.YtcgkgaibomcheaaGreat.W32
end

section
namespace Go.Proofs.YtcgkgaibomcheaaGreat.Enc
open Go.RowKit Bits Dec Find PRvemuRuns YtcgkgaibomcheaaGreatW.PrintWords YtcgkgaibomcheaaGreatW.PrintLast YtcgkgaibomcheaaGreatW.PrintMore
theorem or32 (a b : Nat) (ha : a < 2 ^ 32) (hb : b < 2 ^ 32) : Go.bits .or .u32 (a : Int) (b : Int) = ((a ||| b : Nat) : Int) := by
  show IntKind.u32.wrap (((BitVec.ofInt 32 (a : Int) ||| BitVec.ofInt 32 (b : Int)).toNat : Nat) : Int) = _
  rw [BitVec.ofInt_natCast, BitVec.ofInt_natCast, BitVec.toNat_or, BitVec.toNat_ofNat, BitVec.toNat_ofNat, Nat.mod_eq_of_lt (by omega), Nat.mod_eq_of_lt (by omega)]
  have h := Nat.or_lt_two_pow ha hb
  simp only [IntKind.wrap, IntKind.bits, IntKind.signed, Bool.false_and, Bool.false_eq_true, if_false]
  omega
theorem or32_lt {a b : Nat} (ha : a < 2 ^ 32) (hb : b < 2 ^ 32) : a ||| b < 2 ^ 32 := Nat.or_lt_two_pow ha hb
def fits (form : Nat) (v : Int) : Bool :=
  if form = 1 then decide (0 ≤ v ∧ v < 1048576) else if form = 2 ∨ form = 5 then decide (-2048 ≤ v ∧ v < 2048) else if form = 3 then decide (0 ≤ v ∧ v < 64) else if form = 4 then decide (0 ≤ v ∧ v < 32) else
  if form = 7 then decide (-4096 ≤ v ∧ v < 4096 ∧ v % 2 = 0) else if form = 8 then decide (-1048576 ≤ v ∧ v < 1048576 ∧ v % 2 = 0) else decide (v = 0)
theorem tm2 (v : Int) : (Int.tmod v 2 == 0) = decide (v % 2 = 0) := by
  rw [Bool.eq_iff_iff, beq_iff_eq, decide_eq_true_iff, Int.dvd_iff_tmod_eq_zero.symm, Int.dvd_iff_emod_eq_zero]
theorem two_ (p q r : Prop) [Decidable p] [Decidable q] [Decidable r] (h : r ↔ p ∧ q) : (if p then some (decide q) else some false) = some (decide r) := by
  by_cases hp : p <;> by_cases hq : q <;> simp [h, hp, hq]
theorem three_ (p q s r : Prop) [Decidable p] [Decidable q] [Decidable s] [Decidable r] (h : r ↔ p ∧ q ∧ s) : (if p then (if q then some (decide s) else some false) else some false) = some (decide r) := by
  by_cases hp : p <;> by_cases hq : q <;> by_cases hs : s <;> simp [h, hp, hq, hs]
theorem imm_eq (k : Nat) (form : Nat) (h1 : 1 ≤ form) (h8 : form ≤ 8) (v : Int) : ravelinref15_imm.f (k + 1) (form : Int) v = some (fits form v) := by
  have hf : form = 1 ∨ form = 2 ∨ form = 3 ∨ form = 4 ∨ form = 5 ∨ form = 6 ∨ form = 7 ∨ form = 8 := by omega
  rcases hf with rfl | rfl | rfl | rfl | rfl | rfl | rfl | rfl
  · exact two_ _ _ _ (by omega)
  · exact two_ _ _ _ (by omega)
  · exact two_ _ _ _ (by omega)
  · exact two_ _ _ _ (by omega)
  · exact two_ _ _ _ (by omega)
  · show some (v == 0) = some (decide (v = 0))
    congr 1
  · show (if v ≥ -4096 then (if v < 4096 then some (Int.tmod v 2 == 0) else some false) else some false) = _
    rw [tm2]
    exact three_ _ _ _ _ (by omega)
  · show (if v ≥ -1048576 then (if v < 1048576 then some (Int.tmod v 2 == 0) else some false) else some false) = _
    rw [tm2]
    exact three_ _ _ _ _ (by omega)
def layS (form v : Nat) : Nat :=
  if form = 1 then (v % 1048576) <<< 12 else if form = 2 then (v % 4096) <<< 20 else if form = 3 ∨ form = 4 then (v % 64) <<< 20 else if form = 5 then (v % 32) <<< 7 ||| (v / 32 % 128) <<< 25 else
  if form = 7 then (((v / 2 % 16) <<< 8 ||| (v / 32 % 64) <<< 25) ||| (v / 2048 % 2) <<< 7) ||| (v / 4096 % 2) <<< 31 else
  if form = 8 then (((v / 2 % 1024) <<< 21 ||| (v / 2048 % 2) <<< 20) ||| (v / 4096 % 256) <<< 12) ||| (v / 1048576 % 2) <<< 31 else 0
theorem sl {a k m : Nat} (h : a < m) (hm : m * 2 ^ k ≤ 2 ^ 32) : a <<< k < 2 ^ 32 := by
  rw [Nat.shiftLeft_eq]
  exact Nat.lt_of_lt_of_le (Nat.mul_lt_mul_of_pos_right h (Nat.pow_pos (by decide))) hm
theorem lay_eq (k : Nat) (hk : 80 ≤ k) (form : Nat) (h1 : 1 ≤ form) (h8 : form ≤ 8) (v : Int) : ravelinref15_lay.f k (form : Int) v = some ((layS form (BitVec.ofInt 64 v).toNat : Nat) : Int) := by
  obtain ⟨k, rfl⟩ : ∃ m, k = m + 1 := ⟨k - 1, by omega⟩
  have ha := fun (q : Nat) (hq : 70 ≤ q) (lo n tt : Nat) (a : lo ≤ 63) (b : n + tt ≤ 32) (c : tt ≤ 31) => At.at_eq q hq (BitVec.ofInt 64 v) v (wrapU v) lo n tt a b c
  generalize (BitVec.ofInt 64 v).toNat = V at ha ⊢
  have hf : form = 1 ∨ form = 2 ∨ form = 3 ∨ form = 4 ∨ form = 5 ∨ form = 6 ∨ form = 7 ∨ form = 8 := by omega
  rcases hf with rfl | rfl | rfl | rfl | rfl | rfl | rfl | rfl
  · show (ravelinref15_at.f (k + 1) v (0 : Nat) (20 : Nat) (12 : Nat)).bind (fun t => some t) = _
    rw [ha _ (by omega) 0 20 12 (by omega) (by omega) (by omega)]
    simp [layS]
  · show (ravelinref15_at.f (k + 1) v (0 : Nat) (12 : Nat) (20 : Nat)).bind (fun t => some t) = _
    rw [ha _ (by omega) 0 12 20 (by omega) (by omega) (by omega)]
    simp [layS]
  · show (ravelinref15_at.f k v (0 : Nat) (6 : Nat) (20 : Nat)).bind (fun t => some t) = _
    rw [ha _ (by omega) 0 6 20 (by omega) (by omega) (by omega)]
    simp [layS]
  · show (ravelinref15_at.f k v (0 : Nat) (6 : Nat) (20 : Nat)).bind (fun t => some t) = _
    rw [ha _ (by omega) 0 6 20 (by omega) (by omega) (by omega)]
    simp [layS]
  · show (ravelinref15_at.f k v (0 : Nat) (5 : Nat) (7 : Nat)).bind (fun t => (ravelinref15_at.f k v (5 : Nat) (7 : Nat) (25 : Nat)).bind fun t2 => some (Go.bits .or .u32 t t2)) = _
    rw [ha _ (by omega) 0 5 7 (by omega) (by omega) (by omega), ha _ (by omega) 5 7 25 (by omega) (by omega) (by omega)]
    simp only [Option.bind_some]
    rw [or32 _ _ (sl (m := 32) (by omega) (by omega)) (sl (m := 128) (by omega) (by omega))]
    simp [layS]
  · show (some (0 : Int)) = _
    simp [layS]
  · show (ravelinref15_at.f k v (1 : Nat) (4 : Nat) (8 : Nat)).bind (fun t => (ravelinref15_at.f k v (5 : Nat) (6 : Nat) (25 : Nat)).bind fun t2 => (ravelinref15_at.f k v (11 : Nat) (1 : Nat) (7 : Nat)).bind fun t3 => (ravelinref15_at.f k v (12 : Nat) (1 : Nat) (31 : Nat)).bind fun t4 => some (Go.bits .or .u32 (Go.bits .or .u32 (Go.bits .or .u32 t t2) t3) t4)) = _
    rw [ha _ (by omega) 1 4 8 (by omega) (by omega) (by omega), ha _ (by omega) 5 6 25 (by omega) (by omega) (by omega), ha _ (by omega) 11 1 7 (by omega) (by omega) (by omega), ha _ (by omega) 12 1 31 (by omega) (by omega) (by omega)]
    simp only [Option.bind_some]
    have b1 : (V / 2 ^ 1 % 2 ^ 4) <<< 8 < 2 ^ 32 := sl (m := 16) (by omega) (by omega)
    have b2 : (V / 2 ^ 5 % 2 ^ 6) <<< 25 < 2 ^ 32 := sl (m := 64) (by omega) (by omega)
    have b3 : (V / 2 ^ 11 % 2 ^ 1) <<< 7 < 2 ^ 32 := sl (m := 2) (by omega) (by omega)
    have b4 : (V / 2 ^ 12 % 2 ^ 1) <<< 31 < 2 ^ 32 := sl (m := 2) (by omega) (by omega)
    rw [or32 _ _ b1 b2, or32 _ _ (or32_lt b1 b2) b3, or32 _ _ (or32_lt (or32_lt b1 b2) b3) b4]
    simp [layS]
  · show (ravelinref15_at.f k v (1 : Nat) (10 : Nat) (21 : Nat)).bind (fun t => (ravelinref15_at.f k v (11 : Nat) (1 : Nat) (20 : Nat)).bind fun t2 => (ravelinref15_at.f k v (12 : Nat) (8 : Nat) (12 : Nat)).bind fun t3 => (ravelinref15_at.f k v (20 : Nat) (1 : Nat) (31 : Nat)).bind fun t4 => some (Go.bits .or .u32 (Go.bits .or .u32 (Go.bits .or .u32 t t2) t3) t4)) = _
    rw [ha _ (by omega) 1 10 21 (by omega) (by omega) (by omega), ha _ (by omega) 11 1 20 (by omega) (by omega) (by omega), ha _ (by omega) 12 8 12 (by omega) (by omega) (by omega), ha _ (by omega) 20 1 31 (by omega) (by omega) (by omega)]
    simp only [Option.bind_some]
    have b1 : (V / 2 ^ 1 % 2 ^ 10) <<< 21 < 2 ^ 32 := sl (m := 1024) (by omega) (by omega)
    have b2 : (V / 2 ^ 11 % 2 ^ 1) <<< 20 < 2 ^ 32 := sl (m := 2) (by omega) (by omega)
    have b3 : (V / 2 ^ 12 % 2 ^ 8) <<< 12 < 2 ^ 32 := sl (m := 256) (by omega) (by omega)
    have b4 : (V / 2 ^ 20 % 2 ^ 1) <<< 31 < 2 ^ 32 := sl (m := 2) (by omega) (by omega)
    rw [or32 _ _ b1 b2, or32 _ _ (or32_lt b1 b2) b3, or32 _ _ (or32_lt (or32_lt b1 b2) b3) b4]
    simp [layS]
theorem layS_lt (form v : Nat) : layS form v < 2 ^ 32 := by
  unfold layS
  split
  · exact sl (m := 1048576) (by omega) (by omega)
  split
  · exact sl (m := 4096) (by omega) (by omega)
  split
  · exact sl (m := 64) (by omega) (by omega)
  split
  · exact or32_lt (sl (m := 32) (by omega) (by omega)) (sl (m := 128) (by omega) (by omega))
  split
  · exact or32_lt (or32_lt (or32_lt (sl (m := 16) (by omega) (by omega)) (sl (m := 64) (by omega) (by omega))) (sl (m := 2) (by omega) (by omega))) (sl (m := 2) (by omega) (by omega))
  split
  · exact or32_lt (or32_lt (or32_lt (sl (m := 1024) (by omega) (by omega)) (sl (m := 2) (by omega) (by omega))) (sl (m := 256) (by omega) (by omega))) (sl (m := 2) (by omega) (by omega))
  · omega
theorem row_eq : ∀ i : Fin 34, (rowOf (i.1 + 1)).f0 = ((i.1 + 1 : Nat) : Int) ∧ (rowOf (i.1 + 1)).f1 = (formOf (i.1 + 1) : Nat) ∧ (rowOf (i.1 + 1)).f2 = (codeOf (i.1 + 1) : Nat) ∧ (rowOf (i.1 + 1)).f3 = (f3Of (i.1 + 1) : Nat) ∧ (rowOf (i.1 + 1)).f4 = (f7Of (i.1 + 1) : Nat) := by decide +kernel
theorem find_at (k : Nat) (hk : 40 ≤ k) (n : Nat) (h0 : 1 ≤ n) (h1 : n ≤ 34) : ravelinref15_Find.f k (n : Int) = some ((n : Int), ((formOf n : Nat) : Int), ((codeOf n : Nat) : Int), ((f3Of n : Nat) : Int), ((f7Of n : Nat) : Int), (rowOf n).f5, true) := by
  have h := find_eq ⟨n - 1, by omega⟩
  obtain ⟨e0, e1, e2, e3, e4⟩ := row_eq ⟨n - 1, by omega⟩
  simp only [show n - 1 + 1 = n by omega] at h e0 e1 e2 e3 e4
  rw [e0, e1, e2, e3, e4] at h
  exact at_rounds (ravelinref15_Find.mono (n : Int)) hk h
theorem forms : ∀ i : Fin 34, 1 ≤ formOf (i.1 + 1) ∧ formOf (i.1 + 1) ≤ 8 ∧ codeOf (i.1 + 1) < 128 ∧ f3Of (i.1 + 1) < 8 ∧ f7Of (i.1 + 1) < 128 := by decide
theorem form_in {n : Nat} (h0 : 1 ≤ n) (h1 : n ≤ 34) : 1 ≤ formOf n ∧ formOf n ≤ 8 ∧ codeOf n < 128 ∧ f3Of n < 8 ∧ f7Of n < 128 := by
  have := forms ⟨n - 1, by omega⟩
  simpa only [show n - 1 + 1 = n by omega] using this
def nd (form : Nat) : Bool := decide (form ≠ 5 ∧ form ≠ 7)
def ns (form : Nat) : Bool := decide (form ≠ 1 ∧ form ≠ 8)
def nt (form : Nat) : Bool := decide (5 ≤ form ∧ form ≤ 7)
theorem named_eq (k : Nat) (form : Nat) (h1 : 1 ≤ form) (h8 : form ≤ 8) : ravelinref15_Named.f (k + 3) (form : Int) = some (nd form, ns form, nt form) := by
  have hf : form = 1 ∨ form = 2 ∨ form = 3 ∨ form = 4 ∨ form = 5 ∨ form = 6 ∨ form = 7 ∨ form = 8 := by omega
  rcases hf with rfl | rfl | rfl | rfl | rfl | rfl | rfl | rfl <;> rfl
def regOk (v : Int) (b : Bool) : Bool := decide (0 ≤ v ∧ v < 32 ∧ (b = true ∨ v = 0))
theorem reg_eq (v : Int) (b : Bool) : ravelinref15_reg.f v b = some (regOk v b) := by
  unfold ravelinref15_reg.f regOk
  by_cases h0 : v ≥ 0 <;> by_cases h1 : v < 32 <;> cases b <;> simp [h0, h1] <;> (try omega)
  rfl
def encN (n d s t V : Nat) : Nat :=
  let w0 := codeOf n ||| layS (formOf n) V
  let w1 := if nd (formOf n) = true then w0 ||| d <<< 7 else w0
  let w2 := if ns (formOf n) = true then w1 ||| s <<< 15 else w1
  let w3 := if nt (formOf n) = true then w2 ||| t <<< 20 else w2
  let w4 := if formOf n ≠ 1 ∧ formOf n ≠ 8 then w3 ||| (f3Of n) <<< 12 else w3
  if formOf n = 6 then w4 ||| (f7Of n) <<< 25 else w4
def encW (n : Nat) (rd rs1 rs2 imm : Int) : Nat := encN n rd.toNat rs1.toNat rs2.toNat (BitVec.ofInt 64 imm).toNat
def regsOk (n : Nat) (rd rs1 rs2 : Int) : Bool := regOk rd (nd (formOf n)) && (regOk rs1 (ns (formOf n)) && regOk rs2 (nt (formOf n)))
theorem sh32 (a : Int) (h : regOk a true = true) (c m : Nat) (hm : 2 ^ c = m) (hc : c ≤ 20) : ((a % 4294967296) * (m : Int)) % 4294967296 = ((a.toNat <<< c : Nat) : Int) := by
  unfold regOk at h
  have h := of_decide_eq_true h
  rw [Nat.shiftLeft_eq, hm]
  have hm2 : m ≤ 1048576 := by rw [← hm]; exact Nat.pow_le_pow_right (by decide) hc
  have h3 : a.toNat * m ≤ 31 * 1048576 := Nat.mul_le_mul (by omega) hm2
  rw [show a % 4294967296 = (a.toNat : Int) by omega, ← Int.natCast_mul]
  omega
theorem regOk_of {a : Int} {b : Bool} (h : regOk a b = true) : regOk a true = true := by
  unfold regOk at h ⊢
  have h := of_decide_eq_true h
  exact decide_eq_true ⟨h.1, h.2.1, .inl rfl⟩
theorem regOk_lt {a : Int} {b : Bool} (h : regOk a b = true) : a.toNat < 32 := by
  unfold regOk at h
  have h := of_decide_eq_true h
  omega
theorem enc_eq (k : Nat) (hk : 100 ≤ k) (n : Nat) (h0 : 1 ≤ n) (h1 : n ≤ 34) (rd rs1 rs2 imm : Int) :
    ravelinref15_Encode.f k (n : Int) rd rs1 rs2 imm = some (if regsOk n rd rs1 rs2 = true then (if fits (formOf n) imm = true then (((encW n rd rs1 rs2 imm : Nat) : Int), 0) else (0, 152)) else (0, 151)) := by
  obtain ⟨k, rfl⟩ : ∃ m, k = m + 10 := ⟨k - 10, by omega⟩
  obtain ⟨f1, f8, fc, f3, f7⟩ := form_in h0 h1
  unfold ravelinref15_Encode.f
  rw [find_at _ (by omega) n h0 h1]
  simp only [Option.bind_some, if_true]
  rw [named_eq (k + 7) _ f1 f8]
  simp only [Option.bind_some, reg_eq]
  unfold regsOk
  by_cases a1 : regOk rd (nd (formOf n)) = true
  case neg =>
    rw [Bool.eq_false_iff.2 a1]
    simp [ravelinref15_Encode.j0]
  by_cases a2 : regOk rs1 (ns (formOf n)) = true
  case neg =>
    rw [a1, Bool.eq_false_iff.2 a2]
    simp [ravelinref15_Encode.j0]
  by_cases a3 : regOk rs2 (nt (formOf n)) = true
  case neg =>
    rw [a1, a2, Bool.eq_false_iff.2 a3]
    simp [ravelinref15_Encode.j0]
  rw [a1, a2, a3]
  simp only [if_true, Bool.not_true, Bool.and_self]
  simp only [ravelinref15_Encode.j0]
  rw [imm_eq _ _ f1 f8]
  simp only [Option.bind_some, Bool.false_eq_true, if_false]
  by_cases a4 : fits (formOf n) imm = true
  case neg =>
    rw [if_neg a4, if_neg a4]
  rw [if_pos a4, if_pos a4, lay_eq _ (by omega) _ f1 f8]
  simp only [Option.bind_some]
  have e1 : rd % 4294967296 * 128 % 4294967296 = _ := sh32 rd (regOk_of a1) 7 128 rfl (by omega)
  have e2 : rs1 % 4294967296 * 32768 % 4294967296 = _ := sh32 rs1 (regOk_of a2) 15 32768 rfl (by omega)
  have e3 : rs2 % 4294967296 * 1048576 % 4294967296 = _ := sh32 rs2 (regOk_of a3) 20 1048576 rfl (by omega)
  have e4 : (((f3Of n : Nat) : Int) * (4096 : Int)) % (4294967296 : Int) = (((f3Of n) <<< 12 : Nat) : Int) := by rw [Nat.shiftLeft_eq]; omega
  have e5 : ((f7Of n : Nat) : Int) * (33554432 : Int) % (4294967296 : Int) = (((f7Of n) <<< 25 : Nat) : Int) := by rw [Nat.shiftLeft_eq]; omega
  have b1 : rd.toNat <<< 7 < 2 ^ 32 := sl (regOk_lt a1) (by omega)
  have b2 : rs1.toNat <<< 15 < 2 ^ 32 := sl (regOk_lt a2) (by omega)
  have b3 : rs2.toNat <<< 20 < 2 ^ 32 := sl (regOk_lt a3) (by omega)
  have b4 : (f3Of n) <<< 12 < 2 ^ 32 := sl f3 (by omega)
  have b5 : (f7Of n) <<< 25 < 2 ^ 32 := sl f7 (by omega)
  have b0 := layS_lt (formOf n) (BitVec.ofInt 64 imm).toNat
  have bc : codeOf n < 2 ^ 32 := by omega
  unfold encW encN
  generalize layS (formOf n) (BitVec.ofInt 64 imm).toNat = L at b0 ⊢
  generalize rd.toNat <<< 7 = q1 at *
  generalize rs1.toNat <<< 15 = q2 at *
  generalize rs2.toNat <<< 20 = q3 at *
  generalize (f3Of n) <<< 12 = q4 at *
  generalize (f7Of n) <<< 25 = q5 at *
  generalize codeOf n = c at *
  simp only [ravelinref15_Encode.j1, ravelinref15_Encode.j2, ravelinref15_Encode.j3, ravelinref15_Encode.j4, e1, e2, e3, e4, e5]
  generalize formOf n = F at *
  have hf : F = 1 ∨ F = 2 ∨ F = 3 ∨ F = 4 ∨ F = 5 ∨ F = 6 ∨ F = 7 ∨ F = 8 := by omega
  have k0 := or32_lt bc b0
  rcases hf with rfl | rfl | rfl | rfl | rfl | rfl | rfl | rfl
  · show some (Go.bits .or .u32 (Go.bits .or .u32 (c : Int) (L : Int)) (q1 : Int), (0 : Int)) = some ((((c ||| L) ||| q1 : Nat) : Int), 0)
    rw [or32 _ _ bc b0, or32 _ _ k0 b1]
  iterate 3
    · show some (Go.bits .or .u32 (Go.bits .or .u32 (Go.bits .or .u32 (Go.bits .or .u32 (c : Int) (L : Int)) (q1 : Int)) (q2 : Int)) (q4 : Int), (0 : Int)) = some ((((((c ||| L) ||| q1) ||| q2) ||| q4 : Nat) : Int), 0)
      rw [or32 _ _ bc b0, or32 _ _ k0 b1, or32 _ _ (or32_lt k0 b1) b2, or32 _ _ (or32_lt (or32_lt k0 b1) b2) b4]
  · show some (Go.bits .or .u32 (Go.bits .or .u32 (Go.bits .or .u32 (Go.bits .or .u32 (c : Int) (L : Int)) (q2 : Int)) (q3 : Int)) (q4 : Int), (0 : Int)) = some ((((((c ||| L) ||| q2) ||| q3) ||| q4 : Nat) : Int), 0)
    rw [or32 _ _ bc b0, or32 _ _ k0 b2, or32 _ _ (or32_lt k0 b2) b3, or32 _ _ (or32_lt (or32_lt k0 b2) b3) b4]
  · show some (Go.bits .or .u32 (Go.bits .or .u32 (Go.bits .or .u32 (Go.bits .or .u32 (Go.bits .or .u32 (Go.bits .or .u32 (c : Int) (L : Int)) (q1 : Int)) (q2 : Int)) (q3 : Int)) (q4 : Int)) (q5 : Int), (0 : Int)) = some ((((((((c ||| L) ||| q1) ||| q2) ||| q3) ||| q4) ||| q5 : Nat) : Int), 0)
    rw [or32 _ _ bc b0, or32 _ _ k0 b1, or32 _ _ (or32_lt k0 b1) b2, or32 _ _ (or32_lt (or32_lt k0 b1) b2) b3, or32 _ _ (or32_lt (or32_lt (or32_lt k0 b1) b2) b3) b4, or32 _ _ (or32_lt (or32_lt (or32_lt (or32_lt k0 b1) b2) b3) b4) b5]
  · show some (Go.bits .or .u32 (Go.bits .or .u32 (Go.bits .or .u32 (Go.bits .or .u32 (c : Int) (L : Int)) (q2 : Int)) (q3 : Int)) (q4 : Int), (0 : Int)) = some ((((((c ||| L) ||| q2) ||| q3) ||| q4 : Nat) : Int), 0)
    rw [or32 _ _ bc b0, or32 _ _ k0 b2, or32 _ _ (or32_lt k0 b2) b3, or32 _ _ (or32_lt (or32_lt k0 b2) b3) b4]
  · show some (Go.bits .or .u32 (Go.bits .or .u32 (c : Int) (L : Int)) (q1 : Int), (0 : Int)) = some ((((c ||| L) ||| q1 : Nat) : Int), 0)
    rw [or32 _ _ bc b0, or32 _ _ k0 b1]
theorem vnat (x : Int) : (((BitVec.ofInt 64 x).toNat : Nat) : Int) = x % 18446744073709551616 := by
  rw [BitVec.toNat_ofInt]
  omega
theorem sum_u {n d s t V : Nat} (hf : formOf n = 1) (hc : codeOf n < 128) (hd : d < 32) : encN n d s t V = codeOf n + d * 128 + V % 1048576 * 4096 := by
  have h := W32.form_u (codeOf n) (V % 1048576) d hc hd
  unfold encN layS nd ns nt
  rw [hf]
  simpa using h
theorem sum_i {n d s t V : Nat} (hf : formOf n = 2) (hc : codeOf n < 128) (h3 : f3Of n < 8) (hd : d < 32) (hs : s < 32) : encN n d s t V = codeOf n + d * 128 + f3Of n * 4096 + s * 32768 + V % 4096 * 1048576 := by
  have h := W32.form_i (codeOf n) (V % 4096) d s (f3Of n) hc hd hs h3
  unfold encN layS nd ns nt
  rw [hf]
  simpa using h
theorem sum_h {n d s t V : Nat} (hf : formOf n = 3 ∨ formOf n = 4) (hc : codeOf n < 128) (h3 : f3Of n < 8) (hd : d < 32) (hs : s < 32) : encN n d s t V = codeOf n + d * 128 + f3Of n * 4096 + s * 32768 + V % 64 * 1048576 := by
  have h := W32.form_i (codeOf n) (V % 64) d s (f3Of n) hc hd hs h3
  unfold encN layS nd ns nt
  rcases hf with hf | hf <;> rw [hf] <;> simpa using h
theorem sum_s {n d s t V : Nat} (hf : formOf n = 5) (hc : codeOf n < 128) (h3 : f3Of n < 8) (hs : s < 32) (ht : t < 32) : encN n d s t V = codeOf n + V % 32 * 128 + f3Of n * 4096 + s * 32768 + t * 1048576 + V / 32 % 128 * 33554432 := by
  have h := W32.form_s (codeOf n) (V % 32) (V / 32 % 128) s t (f3Of n) hc (by omega) hs ht h3
  unfold encN layS nd ns nt
  rw [hf]
  simpa using h
theorem sum_r {n d s t V : Nat} (hf : formOf n = 6) (hc : codeOf n < 128) (h3 : f3Of n < 8) (hd : d < 32) (hs : s < 32) (ht : t < 32) : encN n d s t V = codeOf n + d * 128 + f3Of n * 4096 + s * 32768 + t * 1048576 + f7Of n * 33554432 := by
  have h := W32.form_r (codeOf n) d s t (f3Of n) (f7Of n) hc hd hs ht h3
  unfold encN layS nd ns nt
  rw [hf]
  simpa using h
theorem sum_b {n d s t V : Nat} (hf : formOf n = 7) (hc : codeOf n < 128) (h3 : f3Of n < 8) (hs : s < 32) (ht : t < 32) : encN n d s t V = codeOf n + V / 2048 % 2 * 128 + V / 2 % 16 * 256 + f3Of n * 4096 + s * 32768 + t * 1048576 + V / 32 % 64 * 33554432 + V / 4096 % 2 * 2147483648 := by
  have h := W32.form_b (codeOf n) (V / 2 % 16) (V / 32 % 64) (V / 2048 % 2) (V / 4096 % 2) s t (f3Of n) hc (by omega) (by omega) (by omega) hs ht h3
  unfold encN layS nd ns nt
  rw [hf]
  simpa using h
theorem sum_j {n d s t V : Nat} (hf : formOf n = 8) (hc : codeOf n < 128) (hd : d < 32) : encN n d s t V = codeOf n + d * 128 + V / 4096 % 256 * 4096 + V / 2048 % 2 * 1048576 + V / 2 % 1024 * 2097152 + V / 1048576 % 2 * 2147483648 := by
  have h := W32.form_j (codeOf n) (V / 2 % 1024) (V / 2048 % 2) (V / 4096 % 256) (V / 1048576 % 2) d hc (by omega) (by omega) (by omega) hd
  unfold encN layS nd ns nt
  rw [hf]
  simpa using h
theorem fits_of (n w : Nat) (f1 : 1 ≤ formOf n) (f8 : formOf n ≤ 8) : fits (formOf n) (immOf (formOf n) w) = true := by
  generalize formOf n = F at *
  have hf : F = 1 ∨ F = 2 ∨ F = 3 ∨ F = 4 ∨ F = 5 ∨ F = 6 ∨ F = 7 ∨ F = 8 := by omega
  rcases hf with rfl | rfl | rfl | rfl | rfl | rfl | rfl | rfl <;> simp [fits, immOf, immV, sgn] <;> (try split) <;> omega
theorem regs_of (n w : Nat) : regsOk n (fdOf n w : Nat) (fs1Of n w : Nat) (fs2Of n w : Nat) = true := by
  unfold regsOk regOk fdOf fs1Of fs2Of nd ns nt
  simp only [Bool.and_eq_true, decide_eq_true_eq]
  refine ⟨⟨by omega, ?_, ?_⟩, ⟨by omega, ?_, ?_⟩, ⟨by omega, ?_, ?_⟩⟩ <;> split <;> omega
theorem dd (w a b c : Nat) (h : a * b = c) : w / c = w / a / b := by rw [Nat.div_div_eq_div_mul, h]
theorem digits_b (w : Nat) (hw : w < 4294967296) : w = w % 128 + w / 128 % 2 * 128 + w / 256 % 16 * 256 + w / 4096 % 8 * 4096 + w / 32768 % 32 * 32768 + w / 1048576 % 32 * 1048576 + w / 33554432 % 64 * 33554432 + w / 2147483648 % 2 * 2147483648 := by
  rw [dd w 33554432 64 2147483648 rfl, dd w 1048576 32 33554432 rfl, dd w 32768 32 1048576 rfl, dd w 4096 8 32768 rfl, dd w 256 16 4096 rfl, dd w 128 2 256 rfl]
  obtain ⟨a, ha⟩ : ∃ a, w / 128 = a := ⟨_, rfl⟩
  have h1 : w = w % 128 + 128 * a := by omega
  rw [ha]
  have ha2 : a < 33554432 := by omega
  clear ha hw
  obtain ⟨b, hb⟩ : ∃ b, a / 2 = b := ⟨_, rfl⟩
  obtain ⟨c, hc⟩ : ∃ c, b / 16 = c := ⟨_, rfl⟩
  obtain ⟨d, hd⟩ : ∃ d, c / 8 = d := ⟨_, rfl⟩
  obtain ⟨e, he⟩ : ∃ e, d / 32 = e := ⟨_, rfl⟩
  obtain ⟨f, hf⟩ : ∃ f, e / 32 = f := ⟨_, rfl⟩
  rw [hb, hc, hd, he, hf]
  omega
theorem digits_j (w : Nat) (hw : w < 4294967296) : w = w % 128 + w / 128 % 32 * 128 + w / 4096 % 256 * 4096 + w / 1048576 % 2 * 1048576 + w / 2097152 % 1024 * 2097152 + w / 2147483648 % 2 * 2147483648 := by
  rw [dd w 2097152 1024 2147483648 rfl, dd w 1048576 2 2097152 rfl, dd w 4096 256 1048576 rfl, dd w 128 32 4096 rfl]
  obtain ⟨a, ha⟩ : ∃ a, w / 128 = a := ⟨_, rfl⟩
  have h1 : w = w % 128 + 128 * a := by omega
  rw [ha]
  have ha2 : a < 33554432 := by omega
  clear ha hw
  obtain ⟨b, hb⟩ : ∃ b, a / 32 = b := ⟨_, rfl⟩
  obtain ⟨c, hc⟩ : ∃ c, b / 256 = c := ⟨_, rfl⟩
  obtain ⟨d, hd⟩ : ∃ d, c / 2 = d := ⟨_, rfl⟩
  rw [hb, hc, hd]
  omega
theorem low_b (V I a b c d : Nat) (ha : a < 16) (hb : b < 64) (hc : c < 2) (hd : d < 2) (hI : I = a * 2 + b * 32 + c * 2048 + d * 4096) (hV : V = I ∨ V = 18446744073709551616 + I - 2 * 4096) : V / 2048 % 2 = c ∧ V / 2 % 16 = a ∧ V / 32 % 64 = b ∧ V / 4096 % 2 = d := by
  have h : V % 8192 = I := by rcases hV with h | h <;> omega
  clear hV
  have e1 : V / 2048 % 2 = V % 8192 / 2048 % 2 := by omega
  have e2 : V / 2 % 16 = V % 8192 / 2 % 16 := by omega
  have e3 : V / 32 % 64 = V % 8192 / 32 % 64 := by omega
  have e4 : V / 4096 % 2 = V % 8192 / 4096 % 2 := by omega
  rw [e1, e2, e3, e4, h]
  clear e1 e2 e3 e4 h
  omega
theorem low_j (V I a b c d : Nat) (ha : a < 1024) (hb : b < 2) (hc : c < 256) (hd : d < 2) (hI : I = a * 2 + b * 2048 + c * 4096 + d * 1048576) (hV : V = I ∨ V = 18446744073709551616 + I - 2 * 1048576) : V / 4096 % 256 = c ∧ V / 2048 % 2 = b ∧ V / 2 % 1024 = a ∧ V / 1048576 % 2 = d := by
  have h : V % 2097152 = I := by rcases hV with h | h <;> omega
  clear hV
  have e1 : V / 4096 % 256 = V % 2097152 / 4096 % 256 := by omega
  have e2 : V / 2048 % 2 = V % 2097152 / 2048 % 2 := by omega
  have e3 : V / 2 % 1024 = V % 2097152 / 2 % 1024 := by omega
  have e4 : V / 1048576 % 2 = V % 2097152 / 1048576 % 2 := by omega
  rw [e1, e2, e3, e4, h]
  clear e1 e2 e3 e4 h
  omega
theorem sgn_low (half I V : Nat) (hh : half ≤ 1048576) (hI : I < 2 * half) (hv : ((V : Nat) : Int) = sgn half I % 18446744073709551616) : V = I ∨ V = 18446744073709551616 + I - 2 * half := by
  unfold sgn at hv
  split at hv <;> omega
theorem imm_bits (n w V : Nat) (f1 : 1 ≤ formOf n) (f8 : formOf n ≤ 8) (hv : ((V : Nat) : Int) = immOf (formOf n) w % 18446744073709551616) :
    (formOf n = 1 → V % 1048576 = w / 4096 % 1048576) ∧ (formOf n = 2 → V % 4096 = w / 1048576 % 4096) ∧ (formOf n = 3 → V % 64 = w / 1048576 % 64) ∧ (formOf n = 4 → V % 64 = w / 1048576 % 32) ∧ (formOf n = 5 → V % 32 = w / 128 % 32 ∧ V / 32 % 128 = w / 33554432 % 128) ∧
    (formOf n = 7 → V / 2048 % 2 = w / 128 % 2 ∧ V / 2 % 16 = w / 256 % 16 ∧ V / 32 % 64 = w / 33554432 % 64 ∧ V / 4096 % 2 = w / 2147483648 % 2) ∧
    (formOf n = 8 → V / 4096 % 256 = w / 4096 % 256 ∧ V / 2048 % 2 = w / 1048576 % 2 ∧ V / 2 % 1024 = w / 2097152 % 1024 ∧ V / 1048576 % 2 = w / 2147483648 % 2) := by
  generalize formOf n = F at *
  refine ⟨fun h => ?_, fun h => ?_, fun h => ?_, fun h => ?_, fun h => ?_, fun h => ?_, fun h => ?_⟩ <;> subst h <;> clear f1 f8
  · have hv : (V : Int) = ((w / 4096 % 1048576 : Nat) : Int) % 18446744073709551616 := hv
    omega
  · have hi : immV 2 w = w / 1048576 % 4096 := rfl
    have := sgn_low 2048 (immV 2 w) V (by omega) (by omega) hv
    omega
  · have hv : (V : Int) = ((w / 1048576 % 64 : Nat) : Int) % 18446744073709551616 := hv
    omega
  · have hv : (V : Int) = ((w / 1048576 % 32 : Nat) : Int) % 18446744073709551616 := hv
    omega
  · have hi : immV 5 w = w / 128 % 32 + (w / 33554432 % 128) * 32 := rfl
    have := sgn_low 2048 (immV 5 w) V (by omega) (by omega) hv
    omega
  · have hi : immV 7 w = (w / 256 % 16) * 2 + (w / 33554432 % 64) * 32 + (w / 128 % 2) * 2048 + (w / 2147483648 % 2) * 4096 := rfl
    exact low_b V _ _ _ _ _ (by omega) (by omega) (by omega) (by omega) hi (sgn_low 4096 (immV 7 w) V (by omega) (by omega) hv)
  · have hi : immV 8 w = (w / 2097152 % 1024) * 2 + (w / 1048576 % 2) * 2048 + (w / 4096 % 256) * 4096 + (w / 2147483648 % 2) * 1048576 := rfl
    exact low_j V _ _ _ _ _ (by omega) (by omega) (by omega) (by omega) hi (sgn_low 1048576 (immV 8 w) V (by omega) (by omega) hv)
theorem enc_hit (n w : Nat) (h0 : 1 ≤ n) (h1 : n ≤ 34) (hw : w < 4294967296) (hc : w % 128 = codeOf n) : (encW n (fdOf n w : Nat) (fs1Of n w : Nat) (fs2Of n w : Nat) (immOf (formOf n) w) = w) ↔ hit n w = true := by
  obtain ⟨f1, f8, fc, f3, f7⟩ := form_in h0 h1
  have hv := vnat (immOf (formOf n) w)
  have hd := rd_lt n w
  have hs := rs1_lt n w
  have ht := rs2_lt n w
  unfold encW hit midOk topOk
  simp only [Int.toNat_natCast]
  generalize (BitVec.ofInt 64 (immOf (formOf n) w)).toNat = V at hv ⊢
  obtain ⟨k1, k2, k3, k4, k5, k7, k8⟩ := imm_bits n w V f1 f8 hv
  clear hv
  have hf : formOf n = 1 ∨ formOf n = 2 ∨ formOf n = 3 ∨ formOf n = 4 ∨ formOf n = 5 ∨ formOf n = 6 ∨ formOf n = 7 ∨ formOf n = 8 := by omega
  rcases hf with hf | hf | hf | hf | hf | hf | hf | hf
  · have k1 := k1 hf
    clear k2 k3 k4 k5 k7 k8
    rw [sum_u hf fc hd, k1]
    simp [hf, fdOf, hc]
    omega
  · have k2 := k2 hf
    clear k1 k3 k4 k5 k7 k8
    rw [sum_i hf fc f3 hd hs, k2]
    simp [hf, fdOf, fs1Of, hc]
    omega
  · have k3 := k3 hf
    clear k1 k2 k4 k5 k7 k8
    rw [sum_h (.inl hf) fc f3 hd hs, k3]
    simp [hf, fdOf, fs1Of, hc]
    omega
  · have k4 := k4 hf
    clear k1 k3 k2 k5 k7 k8
    rw [sum_h (.inr hf) fc f3 hd hs, k4]
    simp [hf, fdOf, fs1Of, hc]
    omega
  · obtain ⟨k5, k6⟩ := k5 hf
    clear k1 k3 k4 k2 k7 k8
    rw [sum_s hf fc f3 hs ht, k5, k6]
    simp [hf, fs1Of, fs2Of, hc]
    omega
  · clear k1 k2 k3 k4 k5 k7 k8
    rw [sum_r hf fc f3 hd hs ht]
    simp [hf, fdOf, fs1Of, fs2Of, hc]
    omega
  · obtain ⟨a1, a2, a3, a4⟩ := k7 hf
    clear k1 k3 k4 k2 k5 k7 k8
    have hg := digits_b w hw
    rw [sum_b hf fc f3 hs ht, a1, a2, a3, a4]
    simp only [hf, fs1Of, fs2Of, hc]
    simp
    clear a1 a2 a3 a4 hs ht hd
    rw [hc] at hg
    generalize w / 128 % 2 = x1 at *
    generalize w / 256 % 16 = x2 at *
    generalize w / 4096 % 8 = x3 at *
    generalize w / 32768 % 32 = x4 at *
    generalize w / 1048576 % 32 = x5 at *
    generalize w / 33554432 % 64 = x6 at *
    generalize w / 2147483648 % 2 = x7 at *
    omega
  · obtain ⟨a1, a2, a3, a4⟩ := k8 hf
    clear k1 k3 k4 k2 k5 k7 k8
    have hg := digits_j w hw
    rw [sum_j hf fc hd, a1, a2, a3, a4]
    simp only [hf, fdOf, hc]
    simp
    clear a1 a2 a3 a4 hs ht hd
    rw [hc] at hg
    generalize w / 128 % 32 = x1 at *
    generalize w / 4096 % 256 = x2 at *
    generalize w / 1048576 % 2 = x3 at *
    generalize w / 2097152 % 1024 = x4 at *
    generalize w / 2147483648 % 2 = x5 at *
    omega
end Go.Proofs.YtcgkgaibomcheaaGreat.Enc
end

section
namespace Go.Proofs.YtcgkgaibomcheaaGreat.Tk
open Go.RowKit Bits Dec Sg Part PRvemuRuns YtcgkgaibomcheaaGreatW.PrintWords YtcgkgaibomcheaaGreatW.PrintLast YtcgkgaibomcheaaGreatW.PrintMore
theorem orI (a b : Nat) (ha : a < 2 ^ 62) (hb : b < 2 ^ 62) : Go.bits .or .i64 (a : Int) (b : Int) = ((a ||| b : Nat) : Int) := by
  show IntKind.i64.wrap (((BitVec.ofInt 64 (a : Int) ||| BitVec.ofInt 64 (b : Int)).toNat : Nat) : Int) = _
  rw [BitVec.ofInt_natCast, BitVec.ofInt_natCast, BitVec.toNat_or, BitVec.toNat_ofNat, BitVec.toNat_ofNat, Nat.mod_eq_of_lt (by omega), Nat.mod_eq_of_lt (by omega)]
  have h := Nat.or_lt_two_pow ha hb
  simp only [IntKind.wrap, IntKind.bits, IntKind.signed, Bool.true_and]
  split <;> simp_all <;> omega
theorem orAdd (a b k m : Nat) (hm : 2 ^ k = m) (ha : a < m) (hb : a + b * m < 2 ^ 62) (hba : b * m < 2 ^ 62) : Go.bits .or .i64 (a : Int) ((b * m : Nat) : Int) = ((a + b * m : Nat) : Int) := by
  subst hm
  rw [orI _ _ (by omega) hba]
  congr 1
  have := W32.or_up (d := a) (k := k) (r := b) ha
  rw [Nat.shiftLeft_eq] at this
  exact this
theorem w64 (z : Int) (h0 : 0 ≤ z) (h1 : z < 9223372036854775808) : wrap64 z = z := by unfold wrap64; omega
theorem p (k : Nat) (hk : 70 ≤ k) (w : Nat) (hw : w < 4294967296) (lo n : Nat) (hl : lo ≤ 63) (hn : n ≤ 32) (l2 n2 : Nat) (e1 : 2 ^ lo = l2) (e2 : 2 ^ n = n2) : ravelinref15_part.f k (w : Int) (lo : Nat) (n : Nat) = some ((w / l2 % n2 : Nat) : Int) := by
  rw [part_eq k hk w hw lo n hl hn, e1, e2]
theorem sx_sgn (V bits half : Nat) (hb : 1 ≤ bits) (hb2 : bits ≤ 32) (hh : 2 ^ bits = 2 * half) (hV : V < 2 * half) : (sx (BitVec.ofInt 64 (V : Int)) (bits : Int)).toInt = sgn half V := by
  unfold sx
  rw [if_neg (by omega), show min ((bits : Int)).toNat 64 = bits by omega, BitVec.toInt_sshiftRight, Int.shiftRight_eq_div_pow, BitVec.toInt_eq_toNat_cond, BitVec.toNat_shiftLeft, BitVec.ofInt_natCast, BitVec.toNat_ofNat, Nat.shiftLeft_eq]
  have hp : 2 ^ (64 - bits) * (2 * half) = 2 ^ 64 := by rw [← hh, ← Nat.pow_add]; congr 1; omega
  have hpos : 0 < 2 ^ (64 - bits) := Nat.pow_pos (by decide)
  have h1 : V % 2 ^ 64 = V := Nat.mod_eq_of_lt (by have : 2 ^ bits ≤ 2 ^ 32 := Nat.pow_le_pow_right (by decide) hb2; omega)
  rw [h1]
  generalize 2 ^ (64 - bits) = q at *
  have h2 : V * q < 2 ^ 64 := by rw [← hp, Nat.mul_comm q]; exact Nat.mul_lt_mul_of_pos_right hV hpos
  rw [Nat.mod_eq_of_lt h2]
  unfold sgn
  by_cases hlt : V < half
  · rw [if_pos hlt, if_pos (by rw [← hp, show 2 * (V * q) = V * q * 2 by omega, show q * (2 * half) = half * q * 2 by ac_rfl]; exact Nat.mul_lt_mul_of_pos_right (Nat.mul_lt_mul_of_pos_right hlt hpos) (by decide))]
    rw [← Int.natCast_ediv, Nat.mul_div_cancel _ hpos]
  · have h3 : ¬ 2 * (V * q) < 2 ^ 64 := by
      rw [← hp, show q * (2 * half) = 2 * (half * q) by rw [Nat.mul_left_comm, Nat.mul_comm q]]
      exact Nat.not_lt.2 (Nat.mul_le_mul_left 2 (Nat.mul_le_mul_right q (by omega)))
    rw [if_neg hlt, if_neg h3, show ((2 ^ 64 : Nat) : Int) = (2 * half : Int) * (q : Int) by rw [← hp, Int.natCast_mul, Int.mul_comm, Int.natCast_mul]; rfl, Int.natCast_mul, ← Int.sub_mul, Int.mul_ediv_cancel _ (by omega)]
theorem sg (k : Nat) (hk : 65 ≤ k) (V bits half : Nat) (hb : 1 ≤ bits) (hb2 : bits ≤ 32) (hh : 2 ^ bits = 2 * half) (hV : V < 2 * half) : ravelinref15_signed.f k (V : Int) (bits : Int) = some (sgn half V) := by
  rw [signed_eq k hk, sx_sgn V bits half hb hb2 hh hV]
theorem take_eq (k : Nat) (hk : 80 ≤ k) (form : Nat) (h1 : 1 ≤ form) (h8 : form ≤ 8) (w : Nat) (hw : w < 4294967296) : ravelinref15_take.f k (form : Int) (w : Int) = some (immOf form w) := by
  have hp := fun (lo n l2 n2 : Nat) (hl : lo ≤ 63) (hn : n ≤ 32) (e1 : 2 ^ lo = l2) (e2 : 2 ^ n = n2) => p k (by omega) w hw lo n hl hn l2 n2 e1 e2
  have hs := fun (V bits half : Nat) (hb : 1 ≤ bits) (hb2 : bits ≤ 32) (hh : 2 ^ bits = 2 * half) (hV : V < 2 * half) => sg k (by omega) V bits half hb hb2 hh hV
  have hf : form = 1 ∨ form = 2 ∨ form = 3 ∨ form = 4 ∨ form = 5 ∨ form = 6 ∨ form = 7 ∨ form = 8 := by omega
  rcases hf with rfl | rfl | rfl | rfl | rfl | rfl | rfl | rfl
  · show (ravelinref15_part.f k w (12 : Nat) (20 : Nat)).bind (fun t => some t) = _
    rw [hp 12 20 4096 1048576 (by omega) (by omega) rfl rfl]
    rfl
  · show (ravelinref15_part.f k w (20 : Nat) (12 : Nat)).bind (fun t => (ravelinref15_signed.f k t (12 : Nat)).bind fun t => some t) = _
    rw [hp 20 12 1048576 4096 (by omega) (by omega) rfl rfl]
    simp only [Option.bind_some]
    rw [hs _ 12 2048 (by omega) (by omega) rfl (by omega)]
    rfl
  · show (ravelinref15_part.f k w (20 : Nat) (6 : Nat)).bind (fun t => some t) = _
    rw [hp 20 6 1048576 64 (by omega) (by omega) rfl rfl]
    rfl
  · show (ravelinref15_part.f k w (20 : Nat) (5 : Nat)).bind (fun t => some t) = _
    rw [hp 20 5 1048576 32 (by omega) (by omega) rfl rfl]
    rfl
  · show (ravelinref15_part.f k w (7 : Nat) (5 : Nat)).bind (fun t => (ravelinref15_part.f k w (25 : Nat) (7 : Nat)).bind fun t2 => (ravelinref15_signed.f k (Go.bits .or .i64 t (wrap64 (t2 * 32))) (12 : Nat)).bind fun t => some t) = _
    rw [hp 7 5 128 32 (by omega) (by omega) rfl rfl, hp 25 7 33554432 128 (by omega) (by omega) rfl rfl]
    simp only [Option.bind_some]
    have e : wrap64 (((w / 33554432 % 128 : Nat) : Int) * 32) = ((w / 33554432 % 128 * 32 : Nat) : Int) := by rw [w64 _ (by omega) (by omega)]; omega
    rw [e, orAdd _ _ 5 32 rfl (by omega) (by omega) (by omega), hs _ 12 2048 (by omega) (by omega) rfl (by omega)]
    rfl
  · rfl
  · show (ravelinref15_part.f k w (8 : Nat) (4 : Nat)).bind (fun t => (ravelinref15_part.f k w (25 : Nat) (6 : Nat)).bind fun t2 => (ravelinref15_part.f k w (7 : Nat) (1 : Nat)).bind fun t3 => (ravelinref15_part.f k w (31 : Nat) (1 : Nat)).bind fun t4 => (ravelinref15_signed.f k (Go.bits .or .i64 (Go.bits .or .i64 (Go.bits .or .i64 (wrap64 (t * 2)) (wrap64 (t2 * 32))) (wrap64 (t3 * 2048))) (wrap64 (t4 * 4096))) (13 : Nat)).bind fun t => some t) = _
    rw [hp 8 4 256 16 (by omega) (by omega) rfl rfl, hp 25 6 33554432 64 (by omega) (by omega) rfl rfl, hp 7 1 128 2 (by omega) (by omega) rfl rfl, hp 31 1 2147483648 2 (by omega) (by omega) rfl rfl]
    simp only [Option.bind_some]
    have hi : immOf 7 w = sgn 4096 (w / 256 % 16 * 2 + w / 33554432 % 64 * 32 + w / 128 % 2 * 2048 + w / 2147483648 % 2 * 4096) := rfl
    rw [hi]
    clear hi
    have b1 : w / 256 % 16 < 16 := by omega
    have b2 : w / 33554432 % 64 < 64 := by omega
    have b3 : w / 128 % 2 < 2 := by omega
    have b4 : w / 2147483648 % 2 < 2 := by omega
    generalize w / 256 % 16 = x1 at *
    generalize w / 33554432 % 64 = x2 at *
    generalize w / 128 % 2 = x3 at *
    generalize w / 2147483648 % 2 = x4 at *
    have e1 : wrap64 ((x1 : Int) * 2) = ((x1 * 2 : Nat) : Int) := by rw [w64 _ (by omega) (by omega)]; omega
    have e2 : wrap64 ((x2 : Int) * 32) = ((x2 * 32 : Nat) : Int) := by rw [w64 _ (by omega) (by omega)]; omega
    have e3 : wrap64 ((x3 : Int) * 2048) = ((x3 * 2048 : Nat) : Int) := by rw [w64 _ (by omega) (by omega)]; omega
    have e4 : wrap64 ((x4 : Int) * 4096) = ((x4 * 4096 : Nat) : Int) := by rw [w64 _ (by omega) (by omega)]; omega
    rw [e1, e2, e3, e4, orAdd _ x2 5 32 rfl (by omega) (by omega) (by omega), orAdd _ x3 11 2048 rfl (by omega) (by omega) (by omega), orAdd _ x4 12 4096 rfl (by omega) (by omega) (by omega), hs _ 13 4096 (by omega) (by omega) rfl (by omega)]
    rfl
  · show (ravelinref15_part.f k w (21 : Nat) (10 : Nat)).bind (fun t => (ravelinref15_part.f k w (20 : Nat) (1 : Nat)).bind fun t2 => (ravelinref15_part.f k w (12 : Nat) (8 : Nat)).bind fun t3 => (ravelinref15_part.f k w (31 : Nat) (1 : Nat)).bind fun t4 => (ravelinref15_signed.f k (Go.bits .or .i64 (Go.bits .or .i64 (Go.bits .or .i64 (wrap64 (t * 2)) (wrap64 (t2 * 2048))) (wrap64 (t3 * 4096))) (wrap64 (t4 * 1048576))) (21 : Nat)).bind fun t => some t) = _
    rw [hp 21 10 2097152 1024 (by omega) (by omega) rfl rfl, hp 20 1 1048576 2 (by omega) (by omega) rfl rfl, hp 12 8 4096 256 (by omega) (by omega) rfl rfl, hp 31 1 2147483648 2 (by omega) (by omega) rfl rfl]
    simp only [Option.bind_some]
    have hi : immOf 8 w = sgn 1048576 (w / 2097152 % 1024 * 2 + w / 1048576 % 2 * 2048 + w / 4096 % 256 * 4096 + w / 2147483648 % 2 * 1048576) := rfl
    rw [hi]
    clear hi
    have b1 : w / 2097152 % 1024 < 1024 := by omega
    have b2 : w / 1048576 % 2 < 2 := by omega
    have b3 : w / 4096 % 256 < 256 := by omega
    have b4 : w / 2147483648 % 2 < 2 := by omega
    generalize w / 2097152 % 1024 = x1 at *
    generalize w / 1048576 % 2 = x2 at *
    generalize w / 4096 % 256 = x3 at *
    generalize w / 2147483648 % 2 = x4 at *
    have e1 : wrap64 ((x1 : Int) * 2) = ((x1 * 2 : Nat) : Int) := by rw [w64 _ (by omega) (by omega)]; omega
    have e2 : wrap64 ((x2 : Int) * 2048) = ((x2 * 2048 : Nat) : Int) := by rw [w64 _ (by omega) (by omega)]; omega
    have e3 : wrap64 ((x3 : Int) * 4096) = ((x3 * 4096 : Nat) : Int) := by rw [w64 _ (by omega) (by omega)]; omega
    have e4 : wrap64 ((x4 : Int) * 1048576) = ((x4 * 1048576 : Nat) : Int) := by rw [w64 _ (by omega) (by omega)]; omega
    rw [e1, e2, e3, e4, orAdd _ x2 11 2048 rfl (by omega) (by omega) (by omega), orAdd _ x3 12 4096 rfl (by omega) (by omega) (by omega), orAdd _ x4 20 1048576 rfl (by omega) (by omega) (by omega), hs _ 21 1048576 (by omega) (by omega) rfl (by omega)]
    rfl
end Go.Proofs.YtcgkgaibomcheaaGreat.Tk
end
