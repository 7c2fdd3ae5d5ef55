/- Facts on Word and Arg, of the program and of the document, in plain numbers. Conditions: those of each theorem. -/
import Derived.Test.YtplplillpjnnnaaPSecdataWordsx2
import Derived.Test.YtplplillpjnnnaaDat2
namespace Go.Proofs.Ytplplillpjnnnaa.FactsV
open Go.RowKit Go.Proofs.Ytplplillpjnnnaa.PSecdataWords Go.Proofs.Ytplplillpjnnnaa.Bits Go.Proofs.Ytplplillpjnnnaa.Dat2 Go.Proofs.YtplplillpjnnnaaW.PrintWords Go.Proofs.YtplplillpjnnnaaW.PrintLast Go.Proofs.YtplplillpjnnnaaW.PrintMore
set_option linter.unusedVariables false
set_option linter.unusedSimpArgs false

/-- The word at a place, and the error. -/
def wW (l : List Int) (a : Int) : Int := if l.length = 64 ∧ 0 ≤ a ∧ a ≤ 60 ∧ a % 4 = 0 then U (ld l a.toNat 4) else 0
def wE (l : List Int) (a : Int) : Int := if l.length = 64 then (if 0 ≤ a ∧ a ≤ 60 ∧ a % 4 = 0 then 0 else 22) else 21
theorem small_mod {l : List Int} (hb : isBytes l) (a : Nat) : U (ld l a 4) % 4294967296 = U (ld l a 4) := by
  have := wrap32 (ld_small hb a)
  simp only [IntKind.wrap, IntKind.bits, IntKind.signed, Bool.false_and, Bool.false_eq_true, if_false] at this
  exact this
theorem tmod4 {a : Int} (h : 0 ≤ a) : Int.tmod a 4 = a % 4 := Int.tmod_eq_emod_of_nonneg h
theorem ok4 {l : List Int} (hl : l.length = 64) {a : Int} (h0 : 0 ≤ a) (h1 : a ≤ 60) : FactsW.ok l a 4 := ⟨by omega, by omega, h0, by omega⟩
theorem word_eq (k : Nat) (hk : 20 ≤ k) (l : List Int) (hb : isBytes l) (a : Int) : secdata_Word.f k l a = some (wW l a, wE l a) := by
  unfold secdata_Word.f wW wE
  by_cases hl : l.length = 64
  · rw [if_pos (by omega : (l.length : Int) = 64)]
    by_cases h0 : a < 0
    · rw [if_pos h0, if_neg (by omega), if_pos hl, if_neg (by omega)]
    · rw [if_neg h0, tmod4 (by omega)]
      by_cases h4 : a % 4 = 0
      · rw [if_pos h4]
        by_cases h6 : a ≥ 64
        · rw [if_pos h6, if_neg (by omega), if_pos hl, if_neg (by omega)]
        · rw [if_neg h6, if_pos ⟨hl, by omega, by omega, h4⟩, if_pos hl, if_pos ⟨by omega, by omega, h4⟩, FactsW.word_Load_yes k hk l (by omega) hb a 4 (ok4 hl (by omega) (by omega))]
          show some (U (ld l a.toNat 4) % 4294967296, (0 : Int)) = _
          rw [small_mod hb]
      · rw [if_neg h4, if_neg (by omega), if_pos hl, if_neg (by omega)]
  · rw [if_neg (by omega : ¬ (l.length : Int) = 64), if_neg (fun h => hl h.1), if_neg hl]
theorem refWord_eq (k : Nat) (hk : 20 ≤ k) (l : List Int) (hb : isBytes l) (a : Int) : ravelinref02_Word.f k l a = some (wW l a, wE l a) := by
  unfold ravelinref02_Word.f wW wE
  by_cases hl : l.length = 64
  · rw [if_pos (by omega : (l.length : Int) = 64)]
    by_cases h0 : a < 0
    · rw [if_pos h0, if_neg (by omega), if_pos hl, if_neg (by omega)]
    · rw [if_neg h0, tmod4 (by omega)]
      by_cases h6 : a > 60
      · rw [if_pos h6, if_neg (by omega), if_pos hl, if_neg (by omega)]
      · rw [if_neg h6]
        by_cases h4 : a % 4 = 0
        · rw [if_pos h4, if_pos ⟨hl, by omega, by omega, h4⟩, if_pos hl, if_pos ⟨by omega, by omega, h4⟩, FactsW.ref_Load_yes k hk l (by omega) hb a 4 (ok4 hl (by omega) (by omega))]
          show some (U (ld l a.toNat 4) % 4294967296, (0 : Int)) = _
          rw [small_mod hb]
        · rw [if_neg h4, if_neg (by omega), if_pos hl, if_neg (by omega)]
  · rw [if_neg (by omega : ¬ (l.length : Int) = 64), if_neg (fun h => hl h.1), if_neg hl]
/-- Where a half stands, and the error. -/
def aA (i : Int) (h : Bool) : Int := if 0 ≤ i ∧ i ≤ 5 then (if h = true then 16 + 8 * i + 4 else 16 + 8 * i) else 0
def aE (i : Int) : Int := if 0 ≤ i ∧ i ≤ 5 then 0 else 22
theorem w8 (i : Int) (h0 : 0 ≤ i) (h5 : i ≤ 5) : wrap64 (16 + wrap64 (8 * i)) = 16 + 8 * i ∧ wrap64 ((16 + 8 * i) + 4) = 16 + 8 * i + 4 := by
  have e : wrap64 (8 * i) = 8 * i := by unfold wrap64; omega
  rw [e]
  constructor <;> (unfold wrap64; omega)
theorem arg_eq (k : Nat) (i : Int) (h : Bool) : secdata_Arg.f (k + 1) i h = some (aA i h, aE i) := by
  unfold secdata_Arg.f aA aE
  by_cases h0 : i < 0
  · rw [if_pos h0, if_neg (by omega), if_neg (by omega)]
    simp [secdata_Arg.j0]
  · rw [if_neg h0]
    by_cases h5 : i ≤ 5
    · have hp : 0 ≤ i ∧ i ≤ 5 := ⟨by omega, h5⟩
      simp only [if_pos hp]
      rw [decide_eq_false (by omega)]
      simp only [secdata_Arg.j0, Bool.false_eq_true, if_false]
      rw [(w8 i (by omega) h5).1, (w8 i (by omega) h5).2]
      cases h <;> rfl
    · rw [if_neg (by omega), if_neg (by omega), decide_eq_true (by omega)]
      simp [secdata_Arg.j0]
theorem refArg_eq (k : Nat) (i : Int) (h : Bool) : ravelinref02_Arg.f (k + 1) i h = some (aA i h, aE i) := by
  unfold ravelinref02_Arg.f aA aE
  by_cases h0 : i < 0
  · rw [if_pos h0, if_neg (by omega), if_neg (by omega)]
    simp [ravelinref02_Arg.j0]
  · rw [if_neg h0]
    by_cases h5 : i ≤ 5
    · have hp : 0 ≤ i ∧ i ≤ 5 := ⟨by omega, h5⟩
      simp only [if_pos hp]
      rw [decide_eq_false (by omega)]
      simp only [ravelinref02_Arg.j0, Bool.false_eq_true, if_false]
      rw [(w8 i (by omega) h5).1, (w8 i (by omega) h5).2]
      cases h <;> rfl
    · rw [if_neg (by omega), if_neg (by omega), decide_eq_true (by omega)]
      simp [ravelinref02_Arg.j0]
end Go.Proofs.Ytplplillpjnnnaa.FactsV
