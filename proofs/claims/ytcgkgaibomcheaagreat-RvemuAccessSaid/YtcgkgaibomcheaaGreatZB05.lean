/- Joined out of this claim's texts: PRvemuRunsx3, PRvemuRunsx7, PRvemuRunsx9, PRvemuRunsx10, Bytes. Conditions: those of each theorem. -/
import Derived.Test.YtcgkgaibomcheaaGreatZB03
import Derived.Test.YtcgkgaibomcheaaGreatZB02
section
namespace Go.Proofs.YtcgkgaibomcheaaGreat.PRvemuRuns
open Go.RowKit Go.Proofs.YtcgkgaibomcheaaGreatW.PrintWords Go.Proofs.YtcgkgaibomcheaaGreatW.PrintLast Go.Proofs.YtcgkgaibomcheaaGreatW.PrintMore
attribute [local go_sem] max2_int min2_int max_two min_two max_three min_three max_four min_four   -- for this text's walks alone
set_option linter.unusedVariables false
set_option linter.unusedSimpArgs false

/-! ### ravelinref15_imm: function 31 -/
def ravelinref15_imm.j0 : Nat → Int → Int → Bool → Option (Bool)
  | 0, _, _, _ => none
  | k + 1, x1, x5, x14 => if x14 = true then (if x1 ≥ (-2048) then (some (decide (x1 < 2048))) else (some false)) else (if x5 = 3 then (if x1 ≥ 0 then (some (decide (x1 < 64))) else (some false)) else (if x5 = 4 then (if x1 ≥ 0 then (some (decide (x1 < 32))) else (some false)) else (if x5 = 7 then (if x1 ≥ (-4096) then (if x1 < 4096 then (some ((Int.tmod x1 2) == 0)) else (some false)) else (some false)) else (if x5 = 8 then (if x1 ≥ (-1048576) then (if x1 < 1048576 then (some ((Int.tmod x1 2) == 0)) else (some false)) else (some false)) else (some (x1 == 0))))))
def ravelinref15_imm.f (k : Nat) (a0 : Int) (a1 : Int) : Option (Bool) := if a0 = 1 then (if a1 ≥ 0 then (some (decide (a1 < 1048576))) else (some false)) else (if a0 = 2 then (ravelinref15_imm.j0 k a1 a0 (a0 == 2)) else (ravelinref15_imm.j0 k a1 a0 (a0 == 5)))
set_option maxHeartbeats 8000000 in
set_option maxRecDepth 100000 in
theorem ravelinref15_imm.calls (k : Nat) (a0 : Int) (a1 : Int) (r : Bool) (w : World) (h : ravelinref15_imm.f k a0 a1 = some r) :
    Calls Tryz.prog 31 #[.int .i64 a0, .int .i64 a1] w fun e w' => e = .returned (.bool r) ∧ Drawn0 w w' := by
  have H : (if a0 = 1 then (if a1 ≥ 0 then (some (decide (a1 < 1048576))) else (some false)) else (if a0 = 2 then (ravelinref15_imm.j0 k a1 a0 (a0 == 2)) else (ravelinref15_imm.j0 k a1 a0 (a0 == 5)))) = some r := h
  clear h
  by_cases c3 : a0 = 1
  · rw [if_pos c3] at H
    have c3b0 : (a0 == 1) = true := beq_iff_eq.mpr c3
    have c3b1 : (a0 != 1) = false := bne_eq_false_iff_eq.mpr c3
    clear c3
    by_cases c4 : a1 ≥ 0
    · rw [if_pos c4] at H
      have c4b0 : decide (0 ≤ a1) = true := decide_eq_true c4
      clear c4
      obtain rfl := Option.some.inj H
      go_enter Tryz.func31, Tryz.ntmps31
      go_wp2
      go_ret
      exact ⟨by first | rfl | (simp; done) | (simp [*]; done), by repeat (first | exact Drawn0.refl _ | apply Drawn0.step)⟩
    · rw [if_neg c4] at H
      have c4b0 : decide (0 ≤ a1) = false := decide_eq_false c4
      clear c4
      obtain rfl := Option.some.inj H
      go_enter Tryz.func31, Tryz.ntmps31
      go_wp2
      go_ret
      exact ⟨by first | rfl | (simp; done) | (simp [*]; done), by repeat (first | exact Drawn0.refl _ | apply Drawn0.step)⟩
  · rw [if_neg c3] at H
    have c3b0 : (a0 == 1) = false := beq_eq_false_iff_ne.mpr c3
    have c3b1 : (a0 != 1) = true := bne_iff_ne.mpr c3
    have HC5 := Aside0.mk H
    clear H
    go_enter Tryz.func31, Tryz.ntmps31
    go_upto_if 14 with (fail)
    go_cut [14] (fun v14 wc => ∃ (kq : Nat) (x14_4 : Bool), v14 = .bool x14_4 ∧ Aside0 (ravelinref15_imm.j0 kq a1 a0 x14_4 = some r) ∧ Aside0 (kq ≤ k) ∧ Drawn0 w wc)
    case first =>
      have H := HC5.out
      clear HC5
      by_cases c6 : a0 = 2
      · rw [if_pos c6] at H
        have c6b0 : (a0 == 2) = true := beq_iff_eq.mpr c6
        have c6b1 : (a0 != 2) = false := bne_eq_false_iff_eq.mpr c6
        clear c6
        (first | rw [c6b0] | (simp only [i64_w, i32_w]; rw [c6b0]) | skip)
        have H' := Aside0.mk H
        clear H
        go_wp2
        go_meet
        case rel => exact ⟨_, ((a0 == 2)), (by first | rfl | (simp; done) | (simp [*]; done)), H', ⟨by first | omega | exact Nat.le_refl _⟩, by repeat (first | exact Drawn0.refl _ | apply Drawn0.step)⟩
      · rw [if_neg c6] at H
        have c6b0 : (a0 == 2) = false := beq_eq_false_iff_ne.mpr c6
        have c6b1 : (a0 != 2) = true := bne_iff_ne.mpr c6
        (first | rw [c6b0] | (simp only [i64_w, i32_w]; rw [c6b0]) | skip)
        have H' := Aside0.mk H
        clear H
        go_wp2
        go_meet
        case rel => exact ⟨_, ((a0 == 5)), (by first | rfl | (simp; done) | (simp [*]; done)), H', ⟨by first | omega | exact Nat.le_refl _⟩, by repeat (first | exact Drawn0.refl _ | apply Drawn0.step)⟩
    case rest =>
      clear HC5
      try clear p2
      try clear c3
      try clear c3b0
      try clear c3b1
      try clear c4
      try clear c4b0
      try clear c6
      try clear c6b0
      try clear c6b1
      obtain ⟨kq, x14_4, rfl, HA, HJ4, ⟨mc4, rfl⟩⟩ := hcut
      cases kq with
      | zero => exact absurd HA.out (by simp [ravelinref15_imm.j0])
      | succ kj4 =>
        have H := HA.out
        clear HA
        simp only [ravelinref15_imm.j0] at H
        by_cases c7 : x14_4 = true
        · subst c7
          have H1 : (if a1 ≥ (-2048) then (some (decide (a1 < 2048))) else (some false)) = some r := by rw [if_pos rfl] at H; exact H
          clear H
          have H := H1
          clear H1
          by_cases c8 : a1 ≥ (-2048)
          · rw [if_pos c8] at H
            have c8b0 : decide ((-2048) ≤ a1) = true := decide_eq_true c8
            clear c8
            obtain rfl := Option.some.inj H
            go_wp2
            go_ret
            exact ⟨by first | rfl | (simp; done) | (simp [*]; done), by repeat (first | exact Drawn0.refl _ | apply Drawn0.step)⟩
          · rw [if_neg c8] at H
            have c8b0 : decide ((-2048) ≤ a1) = false := decide_eq_false c8
            clear c8
            obtain rfl := Option.some.inj H
            go_wp2
            go_ret
            exact ⟨by first | rfl | (simp; done) | (simp [*]; done), by repeat (first | exact Drawn0.refl _ | apply Drawn0.step)⟩
        · replace c7 := Bool.eq_false_iff.mpr c7
          subst c7
          have H1 : (if a0 = 3 then (if a1 ≥ 0 then (some (decide (a1 < 64))) else (some false)) else (if a0 = 4 then (if a1 ≥ 0 then (some (decide (a1 < 32))) else (some false)) else (if a0 = 7 then (if a1 ≥ (-4096) then (if a1 < 4096 then (some ((Int.tmod a1 2) == 0)) else (some false)) else (some false)) else (if a0 = 8 then (if a1 ≥ (-1048576) then (if a1 < 1048576 then (some ((Int.tmod a1 2) == 0)) else (some false)) else (some false)) else (some (a1 == 0)))))) = some r := by rw [if_neg (show ¬ (false = true) by decide)] at H; exact H
          clear H
          have H := H1
          clear H1
          by_cases c9 : a0 = 3
          · rw [if_pos c9] at H
            have c9b0 : (a0 == 3) = true := beq_iff_eq.mpr c9
            have c9b1 : (a0 != 3) = false := bne_eq_false_iff_eq.mpr c9
            clear c9
            by_cases c10 : a1 ≥ 0
            · rw [if_pos c10] at H
              have c10b0 : decide (0 ≤ a1) = true := decide_eq_true c10
              clear c10
              obtain rfl := Option.some.inj H
              go_wp2
              go_ret
              exact ⟨by first | rfl | (simp; done) | (simp [*]; done), by repeat (first | exact Drawn0.refl _ | apply Drawn0.step)⟩
            · rw [if_neg c10] at H
              have c10b0 : decide (0 ≤ a1) = false := decide_eq_false c10
              clear c10
              obtain rfl := Option.some.inj H
              go_wp2
              go_ret
              exact ⟨by first | rfl | (simp; done) | (simp [*]; done), by repeat (first | exact Drawn0.refl _ | apply Drawn0.step)⟩
          · rw [if_neg c9] at H
            have c9b0 : (a0 == 3) = false := beq_eq_false_iff_ne.mpr c9
            have c9b1 : (a0 != 3) = true := bne_iff_ne.mpr c9
            by_cases c11 : a0 = 4
            · rw [if_pos c11] at H
              have c11b0 : (a0 == 4) = true := beq_iff_eq.mpr c11
              have c11b1 : (a0 != 4) = false := bne_eq_false_iff_eq.mpr c11
              clear c11
              by_cases c12 : a1 ≥ 0
              · rw [if_pos c12] at H
                have c12b0 : decide (0 ≤ a1) = true := decide_eq_true c12
                clear c12
                obtain rfl := Option.some.inj H
                go_wp2
                go_ret
                exact ⟨by first | rfl | (simp; done) | (simp [*]; done), by repeat (first | exact Drawn0.refl _ | apply Drawn0.step)⟩
              · rw [if_neg c12] at H
                have c12b0 : decide (0 ≤ a1) = false := decide_eq_false c12
                clear c12
                obtain rfl := Option.some.inj H
                go_wp2
                go_ret
                exact ⟨by first | rfl | (simp; done) | (simp [*]; done), by repeat (first | exact Drawn0.refl _ | apply Drawn0.step)⟩
            · rw [if_neg c11] at H
              have c11b0 : (a0 == 4) = false := beq_eq_false_iff_ne.mpr c11
              have c11b1 : (a0 != 4) = true := bne_iff_ne.mpr c11
              by_cases c13 : a0 = 7
              · rw [if_pos c13] at H
                have c13b0 : (a0 == 7) = true := beq_iff_eq.mpr c13
                have c13b1 : (a0 != 7) = false := bne_eq_false_iff_eq.mpr c13
                clear c13
                by_cases c14 : a1 ≥ (-4096)
                · rw [if_pos c14] at H
                  have c14b0 : decide ((-4096) ≤ a1) = true := decide_eq_true c14
                  clear c14
                  by_cases c15 : a1 < 4096
                  · rw [if_pos c15] at H
                    have c15b0 : decide (a1 < 4096) = true := decide_eq_true c15
                    clear c15
                    obtain rfl := Option.some.inj H
                    go_wp2
                    go_ret
                    exact ⟨by first | rfl | (simp; done) | (simp [*]; done), by repeat (first | exact Drawn0.refl _ | apply Drawn0.step)⟩
                  · rw [if_neg c15] at H
                    have c15b0 : decide (a1 < 4096) = false := decide_eq_false c15
                    clear c15
                    obtain rfl := Option.some.inj H
                    go_wp2
                    go_ret
                    exact ⟨by first | rfl | (simp; done) | (simp [*]; done), by repeat (first | exact Drawn0.refl _ | apply Drawn0.step)⟩
                · rw [if_neg c14] at H
                  have c14b0 : decide ((-4096) ≤ a1) = false := decide_eq_false c14
                  clear c14
                  obtain rfl := Option.some.inj H
                  go_wp2
                  go_ret
                  exact ⟨by first | rfl | (simp; done) | (simp [*]; done), by repeat (first | exact Drawn0.refl _ | apply Drawn0.step)⟩
              · rw [if_neg c13] at H
                have c13b0 : (a0 == 7) = false := beq_eq_false_iff_ne.mpr c13
                have c13b1 : (a0 != 7) = true := bne_iff_ne.mpr c13
                by_cases c16 : a0 = 8
                · rw [if_pos c16] at H
                  have c16b0 : (a0 == 8) = true := beq_iff_eq.mpr c16
                  have c16b1 : (a0 != 8) = false := bne_eq_false_iff_eq.mpr c16
                  clear c16
                  by_cases c17 : a1 ≥ (-1048576)
                  · rw [if_pos c17] at H
                    have c17b0 : decide ((-1048576) ≤ a1) = true := decide_eq_true c17
                    clear c17
                    by_cases c18 : a1 < 1048576
                    · rw [if_pos c18] at H
                      have c18b0 : decide (a1 < 1048576) = true := decide_eq_true c18
                      clear c18
                      obtain rfl := Option.some.inj H
                      go_wp2
                      go_ret
                      exact ⟨by first | rfl | (simp; done) | (simp [*]; done), by repeat (first | exact Drawn0.refl _ | apply Drawn0.step)⟩
                    · rw [if_neg c18] at H
                      have c18b0 : decide (a1 < 1048576) = false := decide_eq_false c18
                      clear c18
                      obtain rfl := Option.some.inj H
                      go_wp2
                      go_ret
                      exact ⟨by first | rfl | (simp; done) | (simp [*]; done), by repeat (first | exact Drawn0.refl _ | apply Drawn0.step)⟩
                  · rw [if_neg c17] at H
                    have c17b0 : decide ((-1048576) ≤ a1) = false := decide_eq_false c17
                    clear c17
                    obtain rfl := Option.some.inj H
                    go_wp2
                    go_ret
                    exact ⟨by first | rfl | (simp; done) | (simp [*]; done), by repeat (first | exact Drawn0.refl _ | apply Drawn0.step)⟩
                · rw [if_neg c16] at H
                  have c16b0 : (a0 == 8) = false := beq_eq_false_iff_ne.mpr c16
                  have c16b1 : (a0 != 8) = true := bne_iff_ne.mpr c16
                  obtain rfl := Option.some.inj H
                  go_wp2
                  go_ret
                  exact ⟨by first | rfl | (simp; done) | (simp [*]; done), by repeat (first | exact Drawn0.refl _ | apply Drawn0.step)⟩

/-! ### ravelinref01_bit: function 109 -/
def ravelinref01_bit.f (a0 : Int) (a1 : Int) : Option (Int) := if 0 ≤ (IntKind.u64.wrap (a1)) then (some (Go.bits .and .u64 (shr .u64 a0 (IntKind.u64.wrap (a1))) 1)) else (none)
set_option maxHeartbeats 8000000 in
set_option maxRecDepth 100000 in
theorem ravelinref01_bit.calls (a0 : Int) (a1 : Int) (r : Int) (w : World) (h : ravelinref01_bit.f a0 a1 = some r) :
    Calls Tryz.prog 109 #[.int .u64 a0, .int .i64 a1] w fun e w' => e = .returned (.int .u64 r) ∧ Drawn0 w w' := by
  have H : (if 0 ≤ (IntKind.u64.wrap (a1)) then (some (Go.bits .and .u64 (shr .u64 a0 (IntKind.u64.wrap (a1))) 1)) else (none)) = some r := h
  clear h
  obtain ⟨ji3, hji3⟩ : ∃ j_ : Int, (IntKind.u64.wrap (a1)) = j_ := ⟨_, rfl⟩
  replace H : (if 0 ≤ (ji3) then (some (Go.bits .and .u64 (shr .u64 a0 (ji3)) 1)) else (none)) = some r := by first | (rw [hji3] at H; exact H) | (simp only [hji3] at H ⊢; exact H)
  by_cases c4 : 0 ≤ (ji3)
  · rw [if_pos c4] at H
    have c4b0 := eq_true c4
    have c4b1 : decide (0 ≤ (ji3)) = true := decide_eq_true c4
    clear c4
    obtain ⟨ji5, hji5⟩ : ∃ j_ : Int, (shr .u64 a0 (ji3)) = j_ := ⟨_, rfl⟩
    replace H : (some (Go.bits .and .u64 (ji5) 1)) = some r := by first | (rw [hji5] at H; exact H) | (simp only [hji5] at H ⊢; exact H)
    have hji5_ : (a0 / 2 ^ min (ji3).toNat 64) = ji5 := hji5
    have hji5z : (ji3) ≤ 64 → (a0 / 2 ^ (ji3).toNat) = ji5 := shr_small hji5
    obtain rfl := Option.some.inj H
    go_enter Tryz.func109, Tryz.ntmps109
    go_wp2
    go_ret
    exact ⟨by first | rfl | (simp; done) | (simp only [← hji3, ← hji5] <;> (first | rfl | simp)) | (simp [*]; done), by repeat (first | exact Drawn0.refl _ | apply Drawn0.step)⟩
  · rw [if_neg c4] at H
    exact absurd H (by simp)

/-! ### ravelinref01_Bits: function 94 -/
mutual
def ravelinref01_Bits.j0 : Nat → Int → Int → Int → Bool → Option (Int)
  | 0, _, _, _, _ => none
  | k + 1, x0, x1, x2, x18 => if x18 = true then (some 0) else (ravelinref01_Bits.l0 k x0 x1 x2 0 0)
def ravelinref01_Bits.l0 : Nat → Int → Int → Int → Int → Int → Option (Int)
  | 0, _, _, _, _, _ => none
  | k + 1, x0, x1, x2, x7, x8 => if x8 < x2 then (if (wrap64 (x1 + x8)) < 64 then ((ravelinref01_bit.f x0 (wrap64 (x1 + x8))).bind fun t119 => (if 0 ≤ (IntKind.u64.wrap (x8)) then (ravelinref01_Bits.l0 k x0 x1 x2 (Go.bits .or .u64 x7 (shl .u64 t119 (IntKind.u64.wrap (x8)))) (wrap64 (x8 + 1))) else (none))) else (some x7)) else (some x7)
end
def ravelinref01_Bits.f (k : Nat) (a0 : Int) (a1 : Int) (a2 : Int) : Option (Int) := if a1 < 0 then (ravelinref01_Bits.j0 k a0 a1 a2 true) else (if a1 > 63 then (ravelinref01_Bits.j0 k a0 a1 a2 true) else (ravelinref01_Bits.j0 k a0 a1 a2 (decide (a2 < 1))))
set_option maxHeartbeats 8000000 in
set_option maxRecDepth 100000 in
theorem ravelinref01_Bits.calls (k : Nat) (a0 : Int) (a1 : Int) (a2 : Int) (r : Int) (w : World) (h : ravelinref01_Bits.f k a0 a1 a2 = some r) :
    Calls Tryz.prog 94 #[.int .u64 a0, .int .i64 a1, .int .i64 a2] w fun e w' => e = .returned (.int .u64 r) ∧ Drawn0 w w' := by
  have H : (if a1 < 0 then (ravelinref01_Bits.j0 k a0 a1 a2 true) else (if a1 > 63 then (ravelinref01_Bits.j0 k a0 a1 a2 true) else (ravelinref01_Bits.j0 k a0 a1 a2 (decide (a2 < 1))))) = some r := h
  clear h
  have HC4 := Aside0.mk H
  clear H
  go_enter Tryz.func94, Tryz.ntmps94
  go_upto_region 1 with (fail)
  go_cut [18] (fun v18 wc => ∃ (kq : Nat) (x18_3 : Bool), v18 = .bool x18_3 ∧ Aside0 (ravelinref01_Bits.j0 kq a0 a1 a2 x18_3 = some r) ∧ Aside0 (kq ≤ k) ∧ Drawn0 w wc)
  case first =>
    have H := HC4.out
    clear HC4
    by_cases c5 : a1 < 0
    · rw [if_pos c5] at H
      have c5b0 : decide (a1 < 0) = true := decide_eq_true c5
      clear c5
      (first | rw [c5b0] | (simp only [i64_w, i32_w]; rw [c5b0]) | skip)
      have H' := Aside0.mk H
      clear H
      go_wp2
      go_meet
      case rel => exact ⟨_, (true), (by first | rfl | (simp; done) | (simp [*]; done)), H', ⟨by first | omega | exact Nat.le_refl _⟩, by repeat (first | exact Drawn0.refl _ | apply Drawn0.step)⟩
    · rw [if_neg c5] at H
      have c5b0 : decide (a1 < 0) = false := decide_eq_false c5
      clear c5
      (first | rw [c5b0] | (simp only [i64_w, i32_w]; rw [c5b0]) | skip)
      by_cases c6 : a1 > 63
      · rw [if_pos c6] at H
        have c6b0 : decide (63 < a1) = true := decide_eq_true c6
        clear c6
        have H' := Aside0.mk H
        clear H
        go_wp2
        go_meet
        case rel => exact ⟨_, (true), (by first | rfl | (simp; done) | (simp [*]; done)), H', ⟨by first | omega | exact Nat.le_refl _⟩, by repeat (first | exact Drawn0.refl _ | apply Drawn0.step)⟩
      · rw [if_neg c6] at H
        have c6b0 : decide (63 < a1) = false := decide_eq_false c6
        clear c6
        have H' := Aside0.mk H
        clear H
        go_wp2
        go_meet
        case rel => exact ⟨_, (decide (a2 < 1)), (by first | rfl | (simp; done) | (simp [*]; done)), H', ⟨by first | omega | exact Nat.le_refl _⟩, by repeat (first | exact Drawn0.refl _ | apply Drawn0.step)⟩
  case rest =>
    clear HC4
    try clear p2
    try clear c5
    try clear c5b0
    try clear c6
    try clear c6b0
    obtain ⟨kq, x18_3, rfl, HA, HJ3, ⟨mc3, rfl⟩⟩ := hcut
    cases kq with
    | zero => exact absurd HA.out (by simp [ravelinref01_Bits.j0])
    | succ kj3 =>
      have H := HA.out
      clear HA
      simp only [ravelinref01_Bits.j0] at H
      by_cases c7 : x18_3 = true
      · subst c7
        have H1 : (some 0) = some r := by rw [if_pos rfl] at H; exact H
        clear H
        have H := H1
        clear H1
        obtain rfl := Option.some.inj H
        go_wp2
        go_ret
        exact ⟨by first | rfl | (simp; done) | (simp [*]; done), by repeat (first | exact Drawn0.refl _ | apply Drawn0.step)⟩
      · replace c7 := Bool.eq_false_iff.mpr c7
        subst c7
        have H1 : (ravelinref01_Bits.l0 kj3 a0 a1 a2 0 0) = some r := by rw [if_neg (show ¬ (false = true) by decide)] at H; exact H
        clear H
        have H := H1
        clear H1
        have H' := Aside0.mk H
        clear H
        go_wp2
        go_loopg [7, 8] kj3 (fun kq v7 v8 w' => ∃ (x7_2 : Int) (x8_2 : Int), v7 = .int .u64 x7_2 ∧ v8 = .int .i64 x8_2 ∧ Aside0 (ravelinref01_Bits.l0 kq a0 a1 a2 x7_2 x8_2 = some r) ∧ Aside0 (kq ≤ kj3) ∧ Drawn0 w w')
        case atStart => exact ⟨(0), (0), (by first | rfl | (simp; done) | (simp [*]; done)), (by first | rfl | (simp; done) | (simp [*]; done)), H', ⟨Nat.le_refl _⟩, by repeat (first | exact Drawn0.refl _ | apply Drawn0.step)⟩
        case round =>
          clear H'
          try clear p2
          try clear c3
          try clear c5
          try clear c5b0
          try clear c6
          try clear c6b0
          try clear c7
          try clear p2
          obtain ⟨x7_2, x8_2, rfl, rfl, HA, HK2, ⟨m2, rfl⟩⟩ := hrel
          cases gk with
          | zero => exact absurd HA.out (by simp [ravelinref01_Bits.l0])
          | succ k2 =>
            have H := HA.out
            clear HA
            simp only [ravelinref01_Bits.l0] at H
            by_cases c8 : x8_2 < a2
            · rw [if_pos c8] at H
              have c8b0 : decide (x8_2 < a2) = true := decide_eq_true c8
              clear c8
              by_cases c9 : (wrap64 (a1 + x8_2)) < 64
              · rw [if_pos c9] at H
                have c9b0 : decide ((wrap64 (a1 + x8_2)) < 64) = true := decide_eq_true c9
                clear c9
                replace H := Option.bind_eq_some_iff.mp H
                obtain ⟨t119, A100, H⟩ := H
                replace H : (if 0 ≤ (IntKind.u64.wrap (x8_2)) then (ravelinref01_Bits.l0 k2 a0 a1 a2 (Go.bits .or .u64 x7_2 (shl .u64 t119 (IntKind.u64.wrap (x8_2)))) (wrap64 (x8_2 + 1))) else (none)) = some r := H
                have A10 := Aside0.mk A100
                clear A100
                obtain ⟨ji11, hji11⟩ : ∃ j_ : Int, (IntKind.u64.wrap (x8_2)) = j_ := ⟨_, rfl⟩
                replace H : (if 0 ≤ (ji11) then (ravelinref01_Bits.l0 k2 a0 a1 a2 (Go.bits .or .u64 x7_2 (shl .u64 t119 (ji11))) (wrap64 (x8_2 + 1))) else (none)) = some r := by first | (rw [hji11] at H; exact H) | (simp only [hji11] at H ⊢; exact H)
                (try rw [hji11] at A10)
                by_cases c12 : 0 ≤ (ji11)
                · rw [if_pos c12] at H
                  have c12b0 := eq_true c12
                  have c12b1 : decide (0 ≤ (ji11)) = true := decide_eq_true c12
                  clear c12
                  obtain ⟨ji13, hji13⟩ : ∃ j_ : Int, (shl .u64 t119 (ji11)) = j_ := ⟨_, rfl⟩
                  replace H : (ravelinref01_Bits.l0 k2 a0 a1 a2 (Go.bits .or .u64 x7_2 (ji13)) (wrap64 (x8_2 + 1))) = some r := by first | (rw [hji13] at H; exact H) | (simp only [hji13] at H ⊢; exact H)
                  (try rw [hji13] at A10)
                  have hji13_ : (IntKind.u64.wrap (t119 * 2 ^ min (ji11).toNat 64)) = ji13 := hji13
                  have hji13z : (ji11) ≤ 64 → (IntKind.u64.wrap (t119 * 2 ^ (ji11).toNat)) = ji13 := shl_small hji13
                  have H' := Aside0.mk H
                  clear H
                  go_wp2_with (first | ((with_reducible refine gate_callee (f := 109) rfl ?_); refine goesL_ (some 35) rfl rfl Tryz.func109 (by kernel_rfl) rfl #[.int .u64 a0, .int .i64 (wrap64 (a1 + x8_2))] rfl (by (try simp only [List.map_toArray, List.map_cons, List.map_nil]); first | done | rfl | (simp only [List.length_drop, List.length_take]; rfl)) ?_; (with_reducible refine (ravelinref01_bit.calls a0 (wrap64 (a1 + x8_2)) t119 _ A10.out).mono ?_); rintro e w' ⟨rfl, ⟨nd, rfl⟩⟩; refine ⟨_, rfl, ?_⟩))
                  go_roundg k2
                  case measure => have := HJ3.out; have := HK2.out; omega
                  case rel => exact ⟨(Go.bits .or .u64 x7_2 (ji13)), (wrap64 (x8_2 + 1)), (by first | rfl | (simp; done) | (simp only [← hji13] <;> (first | rfl | simp)) | (simp [*]; done)), (by first | rfl | (simp; done) | (simp [*]; done)), H', ⟨by have := HJ3.out; have := HK2.out; omega⟩, by repeat (first | exact Drawn0.refl _ | apply Drawn0.step)⟩
                · rw [if_neg c12] at H
                  exact absurd H (by simp)
              · rw [if_neg c9] at H
                have c9b0 : decide ((wrap64 (a1 + x8_2)) < 64) = false := decide_eq_false c9
                clear c9
                obtain rfl := Option.some.inj H
                go_wp2
                go_ret
                exact ⟨by first | rfl | (simp; done) | (simp [*]; done), by repeat (first | exact Drawn0.refl _ | apply Drawn0.step)⟩
            · rw [if_neg c8] at H
              have c8b0 : decide (x8_2 < a2) = false := decide_eq_false c8
              clear c8
              obtain rfl := Option.some.inj H
              go_wp2
              go_ret
              exact ⟨by first | rfl | (simp; done) | (simp [*]; done), by repeat (first | exact Drawn0.refl _ | apply Drawn0.step)⟩

/-! ### ravelinref15_at: function 48 -/
def ravelinref15_at.f (k : Nat) (a0 : Int) (a1 : Int) (a2 : Int) (a3 : Int) : Option (Int) := (ravelinref01_Bits.f k (IntKind.u64.wrap (a0)) a1 a2).bind fun t120 => (if 0 ≤ (IntKind.u64.wrap (a3)) then (some (shl .u32 ((t120) % 4294967296) (IntKind.u64.wrap (a3)))) else (none))
set_option maxHeartbeats 8000000 in
set_option maxRecDepth 100000 in
theorem ravelinref15_at.calls (k : Nat) (a0 : Int) (a1 : Int) (a2 : Int) (a3 : Int) (r : Int) (w : World) (h : ravelinref15_at.f k a0 a1 a2 a3 = some r) :
    Calls Tryz.prog 48 #[.int .i64 a0, .int .i64 a1, .int .i64 a2, .int .i64 a3] w fun e w' => e = .returned (.int .u32 r) ∧ Drawn0 w w' := by
  have H : ((ravelinref01_Bits.f k (IntKind.u64.wrap (a0)) a1 a2).bind fun t120 => (if 0 ≤ (IntKind.u64.wrap (a3)) then (some (shl .u32 ((t120) % 4294967296) (IntKind.u64.wrap (a3)))) else (none))) = some r := h
  clear h
  replace H := Option.bind_eq_some_iff.mp H
  obtain ⟨t120, A50, H⟩ := H
  replace H : (if 0 ≤ (IntKind.u64.wrap (a3)) then (some (shl .u32 ((t120) % 4294967296) (IntKind.u64.wrap (a3)))) else (none)) = some r := H
  have A5 := Aside0.mk A50
  clear A50
  obtain ⟨ji6, hji6⟩ : ∃ j_ : Int, (IntKind.u64.wrap (a3)) = j_ := ⟨_, rfl⟩
  replace H : (if 0 ≤ (ji6) then (some (shl .u32 ((t120) % 4294967296) (ji6))) else (none)) = some r := by first | (rw [hji6] at H; exact H) | (simp only [hji6] at H ⊢; exact H)
  (try rw [hji6] at A5)
  by_cases c7 : 0 ≤ (ji6)
  · rw [if_pos c7] at H
    have c7b0 := eq_true c7
    have c7b1 : decide (0 ≤ (ji6)) = true := decide_eq_true c7
    clear c7
    obtain ⟨ji8, hji8⟩ : ∃ j_ : Int, (shl .u32 ((t120) % 4294967296) (ji6)) = j_ := ⟨_, rfl⟩
    replace H : (some ji8) = some r := by first | (rw [hji8] at H; exact H) | (simp only [hji8] at H ⊢; exact H)
    (try rw [hji8] at A5)
    have hji8_ : (IntKind.u32.wrap (((t120) % 4294967296) * 2 ^ min (ji6).toNat 32)) = ji8 := hji8
    have hji8z : (ji6) ≤ 32 → (IntKind.u32.wrap (((t120) % 4294967296) * 2 ^ (ji6).toNat)) = ji8 := shl_small hji8
    obtain rfl := Option.some.inj H
    go_enter Tryz.func48, Tryz.ntmps48
    go_wp2_with (first | ((with_reducible refine gate_callee (f := 94) rfl ?_); refine goesL_ (some 13) rfl rfl Tryz.func94 (by kernel_rfl) rfl #[.int .u64 (IntKind.u64.wrap (a0)), .int .i64 a1, .int .i64 a2] rfl (by (try simp only [List.map_toArray, List.map_cons, List.map_nil]); first | done | rfl | (simp only [List.length_drop, List.length_take]; rfl)) ?_; (with_reducible refine (ravelinref01_Bits.calls k (IntKind.u64.wrap (a0)) a1 a2 t120 _ A5.out).mono ?_); rintro e w' ⟨rfl, ⟨nd, rfl⟩⟩; refine ⟨_, rfl, ?_⟩))
    go_ret
    exact ⟨by first | rfl | (simp; done) | (simp only [← hji6, ← hji8] <;> (first | rfl | simp)) | (simp [*]; done), by repeat (first | exact Drawn0.refl _ | apply Drawn0.step)⟩
  · rw [if_neg c7] at H
    exact absurd H (by simp)

/-! ### ravelinref15_lay: function 32 -/
def ravelinref15_lay.j0 : Nat → Int → Int → Bool → Option (Int)
  | 0, _, _, _ => none
  | k + 1, x1, x5, x14 => if x14 = true then ((ravelinref15_at.f k x1 0 6 20).bind fun t123 => (some t123)) else (if x5 = 5 then ((ravelinref15_at.f k x1 0 5 7).bind fun t124 => ((ravelinref15_at.f k x1 5 7 25).bind fun t125 => (some (Go.bits .or .u32 t124 t125)))) else (if x5 = 7 then ((ravelinref15_at.f k x1 1 4 8).bind fun t126 => ((ravelinref15_at.f k x1 5 6 25).bind fun t127 => ((ravelinref15_at.f k x1 11 1 7).bind fun t128 => ((ravelinref15_at.f k x1 12 1 31).bind fun t129 => (some (Go.bits .or .u32 (Go.bits .or .u32 (Go.bits .or .u32 t126 t127) t128) t129)))))) else (if x5 = 8 then ((ravelinref15_at.f k x1 1 10 21).bind fun t130 => ((ravelinref15_at.f k x1 11 1 20).bind fun t131 => ((ravelinref15_at.f k x1 12 8 12).bind fun t132 => ((ravelinref15_at.f k x1 20 1 31).bind fun t133 => (some (Go.bits .or .u32 (Go.bits .or .u32 (Go.bits .or .u32 t130 t131) t132) t133)))))) else (some 0))))
def ravelinref15_lay.f (k : Nat) (a0 : Int) (a1 : Int) : Option (Int) := if a0 = 1 then ((ravelinref15_at.f k a1 0 20 12).bind fun t121 => (some t121)) else (if a0 = 2 then ((ravelinref15_at.f k a1 0 12 20).bind fun t122 => (some t122)) else (if a0 = 3 then (ravelinref15_lay.j0 k a1 a0 (a0 == 3)) else (ravelinref15_lay.j0 k a1 a0 (a0 == 4))))
set_option maxHeartbeats 8000000 in
set_option maxRecDepth 100000 in
theorem ravelinref15_lay.calls (k : Nat) (a0 : Int) (a1 : Int) (r : Int) (w : World) (h : ravelinref15_lay.f k a0 a1 = some r) :
    Calls Tryz.prog 32 #[.int .i64 a0, .int .i64 a1] w fun e w' => e = .returned (.int .u32 r) ∧ Drawn0 w w' := by
  have H : (if a0 = 1 then ((ravelinref15_at.f k a1 0 20 12).bind fun t121 => (some t121)) else (if a0 = 2 then ((ravelinref15_at.f k a1 0 12 20).bind fun t122 => (some t122)) else (if a0 = 3 then (ravelinref15_lay.j0 k a1 a0 (a0 == 3)) else (ravelinref15_lay.j0 k a1 a0 (a0 == 4))))) = some r := h
  clear h
  by_cases c3 : a0 = 1
  · rw [if_pos c3] at H
    have c3b0 : (a0 == 1) = true := beq_iff_eq.mpr c3
    have c3b1 : (a0 != 1) = false := bne_eq_false_iff_eq.mpr c3
    clear c3
    replace H := Option.bind_eq_some_iff.mp H
    obtain ⟨t121, A40, H⟩ := H
    replace H : (some t121) = some r := H
    have A4 := Aside0.mk A40
    clear A40
    obtain rfl := Option.some.inj H
    go_enter Tryz.func32, Tryz.ntmps32
    go_wp2_with (first | ((with_reducible refine gate_callee (f := 48) rfl ?_); refine goesL_ (some 9) rfl rfl Tryz.func48 (by kernel_rfl) rfl #[.int .i64 a1, .int .i64 0, .int .i64 20, .int .i64 12] rfl (by (try simp only [List.map_toArray, List.map_cons, List.map_nil]); first | done | rfl | (simp only [List.length_drop, List.length_take]; rfl)) ?_; (with_reducible refine (ravelinref15_at.calls k a1 0 20 12 t121 _ A4.out).mono ?_); rintro e w' ⟨rfl, ⟨nd, rfl⟩⟩; refine ⟨_, rfl, ?_⟩))
    go_ret
    exact ⟨by first | rfl | (simp; done) | (simp [*]; done), by repeat (first | exact Drawn0.refl _ | apply Drawn0.step)⟩
  · rw [if_neg c3] at H
    have c3b0 : (a0 == 1) = false := beq_eq_false_iff_ne.mpr c3
    have c3b1 : (a0 != 1) = true := bne_iff_ne.mpr c3
    by_cases c5 : a0 = 2
    · rw [if_pos c5] at H
      have c5b0 : (a0 == 2) = true := beq_iff_eq.mpr c5
      have c5b1 : (a0 != 2) = false := bne_eq_false_iff_eq.mpr c5
      clear c5
      replace H := Option.bind_eq_some_iff.mp H
      obtain ⟨t122, A60, H⟩ := H
      replace H : (some t122) = some r := H
      have A6 := Aside0.mk A60
      clear A60
      obtain rfl := Option.some.inj H
      go_enter Tryz.func32, Tryz.ntmps32
      go_wp2_with (first | ((with_reducible refine gate_callee (f := 48) rfl ?_); refine goesL_ (some 13) rfl rfl Tryz.func48 (by kernel_rfl) rfl #[.int .i64 a1, .int .i64 0, .int .i64 12, .int .i64 20] rfl (by (try simp only [List.map_toArray, List.map_cons, List.map_nil]); first | done | rfl | (simp only [List.length_drop, List.length_take]; rfl)) ?_; (with_reducible refine (ravelinref15_at.calls k a1 0 12 20 t122 _ A6.out).mono ?_); rintro e w' ⟨rfl, ⟨nd, rfl⟩⟩; refine ⟨_, rfl, ?_⟩))
      go_ret
      exact ⟨by first | rfl | (simp; done) | (simp [*]; done), by repeat (first | exact Drawn0.refl _ | apply Drawn0.step)⟩
    · rw [if_neg c5] at H
      have c5b0 : (a0 == 2) = false := beq_eq_false_iff_ne.mpr c5
      have c5b1 : (a0 != 2) = true := bne_iff_ne.mpr c5
      have HC7 := Aside0.mk H
      clear H
      go_enter Tryz.func32, Tryz.ntmps32
      go_upto_if 14 with (fail)
      go_cut [14] (fun v14 wc => ∃ (kq : Nat) (x14_6 : Bool), v14 = .bool x14_6 ∧ Aside0 (ravelinref15_lay.j0 kq a1 a0 x14_6 = some r) ∧ Aside0 (kq ≤ k) ∧ Drawn0 w wc)
      case first =>
        have H := HC7.out
        clear HC7
        by_cases c8 : a0 = 3
        · rw [if_pos c8] at H
          have c8b0 : (a0 == 3) = true := beq_iff_eq.mpr c8
          have c8b1 : (a0 != 3) = false := bne_eq_false_iff_eq.mpr c8
          clear c8
          (first | rw [c8b0] | (simp only [i64_w, i32_w]; rw [c8b0]) | skip)
          have H' := Aside0.mk H
          clear H
          go_wp2
          go_meet
          case rel => exact ⟨_, ((a0 == 3)), (by first | rfl | (simp; done) | (simp [*]; done)), H', ⟨by first | omega | exact Nat.le_refl _⟩, by repeat (first | exact Drawn0.refl _ | apply Drawn0.step)⟩
        · rw [if_neg c8] at H
          have c8b0 : (a0 == 3) = false := beq_eq_false_iff_ne.mpr c8
          have c8b1 : (a0 != 3) = true := bne_iff_ne.mpr c8
          (first | rw [c8b0] | (simp only [i64_w, i32_w]; rw [c8b0]) | skip)
          have H' := Aside0.mk H
          clear H
          go_wp2
          go_meet
          case rel => exact ⟨_, ((a0 == 4)), (by first | rfl | (simp; done) | (simp [*]; done)), H', ⟨by first | omega | exact Nat.le_refl _⟩, by repeat (first | exact Drawn0.refl _ | apply Drawn0.step)⟩
      case rest =>
        clear HC7
        try clear p2
        try clear c3
        try clear c3b0
        try clear c3b1
        try clear c4
        try clear c5
        try clear c5b0
        try clear c5b1
        try clear c8
        try clear c8b0
        try clear c8b1
        obtain ⟨kq, x14_6, rfl, HA, HJ6, ⟨mc6, rfl⟩⟩ := hcut
        cases kq with
        | zero => exact absurd HA.out (by simp [ravelinref15_lay.j0])
        | succ kj6 =>
          have H := HA.out
          clear HA
          simp only [ravelinref15_lay.j0] at H
          by_cases c9 : x14_6 = true
          · subst c9
            have H1 : ((ravelinref15_at.f kj6 a1 0 6 20).bind fun t123 => (some t123)) = some r := by rw [if_pos rfl] at H; exact H
            clear H
            have H := H1
            clear H1
            replace H := Option.bind_eq_some_iff.mp H
            obtain ⟨t123, A100, H⟩ := H
            replace H : (some t123) = some r := H
            have A10 := Aside0.mk A100
            clear A100
            obtain rfl := Option.some.inj H
            go_wp2_with (first | ((with_reducible refine gate_callee (f := 48) rfl ?_); refine goesL_ (some 18) rfl rfl Tryz.func48 (by kernel_rfl) rfl #[.int .i64 a1, .int .i64 0, .int .i64 6, .int .i64 20] rfl (by (try simp only [List.map_toArray, List.map_cons, List.map_nil]); first | done | rfl | (simp only [List.length_drop, List.length_take]; rfl)) ?_; (with_reducible refine (ravelinref15_at.calls kj6 a1 0 6 20 t123 _ A10.out).mono ?_); rintro e w' ⟨rfl, ⟨nd, rfl⟩⟩; refine ⟨_, rfl, ?_⟩))
            go_ret
            exact ⟨by first | rfl | (simp; done) | (simp [*]; done), by repeat (first | exact Drawn0.refl _ | apply Drawn0.step)⟩
          · replace c9 := Bool.eq_false_iff.mpr c9
            subst c9
            have H1 : (if a0 = 5 then ((ravelinref15_at.f kj6 a1 0 5 7).bind fun t124 => ((ravelinref15_at.f kj6 a1 5 7 25).bind fun t125 => (some (Go.bits .or .u32 t124 t125)))) else (if a0 = 7 then ((ravelinref15_at.f kj6 a1 1 4 8).bind fun t126 => ((ravelinref15_at.f kj6 a1 5 6 25).bind fun t127 => ((ravelinref15_at.f kj6 a1 11 1 7).bind fun t128 => ((ravelinref15_at.f kj6 a1 12 1 31).bind fun t129 => (some (Go.bits .or .u32 (Go.bits .or .u32 (Go.bits .or .u32 t126 t127) t128) t129)))))) else (if a0 = 8 then ((ravelinref15_at.f kj6 a1 1 10 21).bind fun t130 => ((ravelinref15_at.f kj6 a1 11 1 20).bind fun t131 => ((ravelinref15_at.f kj6 a1 12 8 12).bind fun t132 => ((ravelinref15_at.f kj6 a1 20 1 31).bind fun t133 => (some (Go.bits .or .u32 (Go.bits .or .u32 (Go.bits .or .u32 t130 t131) t132) t133)))))) else (some 0)))) = some r := by rw [if_neg (show ¬ (false = true) by decide)] at H; exact H
            clear H
            have H := H1
            clear H1
            by_cases c11 : a0 = 5
            · rw [if_pos c11] at H
              have c11b0 : (a0 == 5) = true := beq_iff_eq.mpr c11
              have c11b1 : (a0 != 5) = false := bne_eq_false_iff_eq.mpr c11
              clear c11
              replace H := Option.bind_eq_some_iff.mp H
              obtain ⟨t124, A120, H⟩ := H
              replace H : ((ravelinref15_at.f kj6 a1 5 7 25).bind fun t125 => (some (Go.bits .or .u32 t124 t125))) = some r := H
              have A12 := Aside0.mk A120
              clear A120
              replace H := Option.bind_eq_some_iff.mp H
              obtain ⟨t125, A130, H⟩ := H
              replace H : (some (Go.bits .or .u32 t124 t125)) = some r := H
              have A13 := Aside0.mk A130
              clear A130
              obtain rfl := Option.some.inj H
              go_wp2_with (first | ((with_reducible refine gate_callee (f := 48) rfl ?_); refine goesL_ (some 22) rfl rfl Tryz.func48 (by kernel_rfl) rfl #[.int .i64 a1, .int .i64 0, .int .i64 5, .int .i64 7] rfl (by (try simp only [List.map_toArray, List.map_cons, List.map_nil]); first | done | rfl | (simp only [List.length_drop, List.length_take]; rfl)) ?_; (with_reducible refine (ravelinref15_at.calls kj6 a1 0 5 7 t124 _ A12.out).mono ?_); rintro e w' ⟨rfl, ⟨nd, rfl⟩⟩; refine ⟨_, rfl, ?_⟩) | ((with_reducible refine gate_callee (f := 48) rfl ?_); refine goesL_ (some 24) rfl rfl Tryz.func48 (by kernel_rfl) rfl #[.int .i64 a1, .int .i64 5, .int .i64 7, .int .i64 25] rfl (by (try simp only [List.map_toArray, List.map_cons, List.map_nil]); first | done | rfl | (simp only [List.length_drop, List.length_take]; rfl)) ?_; (with_reducible refine (ravelinref15_at.calls kj6 a1 5 7 25 t125 _ A13.out).mono ?_); rintro e w' ⟨rfl, ⟨nd, rfl⟩⟩; refine ⟨_, rfl, ?_⟩))
              go_ret
              exact ⟨by first | rfl | (simp; done) | (simp [*]; done), by repeat (first | exact Drawn0.refl _ | apply Drawn0.step)⟩
            · rw [if_neg c11] at H
              have c11b0 : (a0 == 5) = false := beq_eq_false_iff_ne.mpr c11
              have c11b1 : (a0 != 5) = true := bne_iff_ne.mpr c11
              by_cases c14 : a0 = 7
              · rw [if_pos c14] at H
                have c14b0 : (a0 == 7) = true := beq_iff_eq.mpr c14
                have c14b1 : (a0 != 7) = false := bne_eq_false_iff_eq.mpr c14
                clear c14
                replace H := Option.bind_eq_some_iff.mp H
                obtain ⟨t126, A150, H⟩ := H
                replace H : ((ravelinref15_at.f kj6 a1 5 6 25).bind fun t127 => ((ravelinref15_at.f kj6 a1 11 1 7).bind fun t128 => ((ravelinref15_at.f kj6 a1 12 1 31).bind fun t129 => (some (Go.bits .or .u32 (Go.bits .or .u32 (Go.bits .or .u32 t126 t127) t128) t129))))) = some r := H
                have A15 := Aside0.mk A150
                clear A150
                replace H := Option.bind_eq_some_iff.mp H
                obtain ⟨t127, A160, H⟩ := H
                replace H : ((ravelinref15_at.f kj6 a1 11 1 7).bind fun t128 => ((ravelinref15_at.f kj6 a1 12 1 31).bind fun t129 => (some (Go.bits .or .u32 (Go.bits .or .u32 (Go.bits .or .u32 t126 t127) t128) t129)))) = some r := H
                have A16 := Aside0.mk A160
                clear A160
                replace H := Option.bind_eq_some_iff.mp H
                obtain ⟨t128, A170, H⟩ := H
                replace H : ((ravelinref15_at.f kj6 a1 12 1 31).bind fun t129 => (some (Go.bits .or .u32 (Go.bits .or .u32 (Go.bits .or .u32 t126 t127) t128) t129))) = some r := H
                have A17 := Aside0.mk A170
                clear A170
                replace H := Option.bind_eq_some_iff.mp H
                obtain ⟨t129, A180, H⟩ := H
                replace H : (some (Go.bits .or .u32 (Go.bits .or .u32 (Go.bits .or .u32 t126 t127) t128) t129)) = some r := H
                have A18 := Aside0.mk A180
                clear A180
                obtain rfl := Option.some.inj H
                go_wp2_with (first | ((with_reducible refine gate_callee (f := 48) rfl ?_); refine goesL_ (some 29) rfl rfl Tryz.func48 (by kernel_rfl) rfl #[.int .i64 a1, .int .i64 1, .int .i64 4, .int .i64 8] rfl (by (try simp only [List.map_toArray, List.map_cons, List.map_nil]); first | done | rfl | (simp only [List.length_drop, List.length_take]; rfl)) ?_; (with_reducible refine (ravelinref15_at.calls kj6 a1 1 4 8 t126 _ A15.out).mono ?_); rintro e w' ⟨rfl, ⟨nd, rfl⟩⟩; refine ⟨_, rfl, ?_⟩) | ((with_reducible refine gate_callee (f := 48) rfl ?_); refine goesL_ (some 31) rfl rfl Tryz.func48 (by kernel_rfl) rfl #[.int .i64 a1, .int .i64 5, .int .i64 6, .int .i64 25] rfl (by (try simp only [List.map_toArray, List.map_cons, List.map_nil]); first | done | rfl | (simp only [List.length_drop, List.length_take]; rfl)) ?_; (with_reducible refine (ravelinref15_at.calls kj6 a1 5 6 25 t127 _ A16.out).mono ?_); rintro e w' ⟨rfl, ⟨nd, rfl⟩⟩; refine ⟨_, rfl, ?_⟩) | ((with_reducible refine gate_callee (f := 48) rfl ?_); refine goesL_ (some 34) rfl rfl Tryz.func48 (by kernel_rfl) rfl #[.int .i64 a1, .int .i64 11, .int .i64 1, .int .i64 7] rfl (by (try simp only [List.map_toArray, List.map_cons, List.map_nil]); first | done | rfl | (simp only [List.length_drop, List.length_take]; rfl)) ?_; (with_reducible refine (ravelinref15_at.calls kj6 a1 11 1 7 t128 _ A17.out).mono ?_); rintro e w' ⟨rfl, ⟨nd, rfl⟩⟩; refine ⟨_, rfl, ?_⟩) | ((with_reducible refine gate_callee (f := 48) rfl ?_); refine goesL_ (some 37) rfl rfl Tryz.func48 (by kernel_rfl) rfl #[.int .i64 a1, .int .i64 12, .int .i64 1, .int .i64 31] rfl (by (try simp only [List.map_toArray, List.map_cons, List.map_nil]); first | done | rfl | (simp only [List.length_drop, List.length_take]; rfl)) ?_; (with_reducible refine (ravelinref15_at.calls kj6 a1 12 1 31 t129 _ A18.out).mono ?_); rintro e w' ⟨rfl, ⟨nd, rfl⟩⟩; refine ⟨_, rfl, ?_⟩))
                go_ret
                exact ⟨by first | rfl | (simp; done) | (simp [*]; done), by repeat (first | exact Drawn0.refl _ | apply Drawn0.step)⟩
              · rw [if_neg c14] at H
                have c14b0 : (a0 == 7) = false := beq_eq_false_iff_ne.mpr c14
                have c14b1 : (a0 != 7) = true := bne_iff_ne.mpr c14
                by_cases c19 : a0 = 8
                · rw [if_pos c19] at H
                  have c19b0 : (a0 == 8) = true := beq_iff_eq.mpr c19
                  have c19b1 : (a0 != 8) = false := bne_eq_false_iff_eq.mpr c19
                  clear c19
                  replace H := Option.bind_eq_some_iff.mp H
                  obtain ⟨t130, A200, H⟩ := H
                  replace H : ((ravelinref15_at.f kj6 a1 11 1 20).bind fun t131 => ((ravelinref15_at.f kj6 a1 12 8 12).bind fun t132 => ((ravelinref15_at.f kj6 a1 20 1 31).bind fun t133 => (some (Go.bits .or .u32 (Go.bits .or .u32 (Go.bits .or .u32 t130 t131) t132) t133))))) = some r := H
                  have A20 := Aside0.mk A200
                  clear A200
                  replace H := Option.bind_eq_some_iff.mp H
                  obtain ⟨t131, A210, H⟩ := H
                  replace H : ((ravelinref15_at.f kj6 a1 12 8 12).bind fun t132 => ((ravelinref15_at.f kj6 a1 20 1 31).bind fun t133 => (some (Go.bits .or .u32 (Go.bits .or .u32 (Go.bits .or .u32 t130 t131) t132) t133)))) = some r := H
                  have A21 := Aside0.mk A210
                  clear A210
                  replace H := Option.bind_eq_some_iff.mp H
                  obtain ⟨t132, A220, H⟩ := H
                  replace H : ((ravelinref15_at.f kj6 a1 20 1 31).bind fun t133 => (some (Go.bits .or .u32 (Go.bits .or .u32 (Go.bits .or .u32 t130 t131) t132) t133))) = some r := H
                  have A22 := Aside0.mk A220
                  clear A220
                  replace H := Option.bind_eq_some_iff.mp H
                  obtain ⟨t133, A230, H⟩ := H
                  replace H : (some (Go.bits .or .u32 (Go.bits .or .u32 (Go.bits .or .u32 t130 t131) t132) t133)) = some r := H
                  have A23 := Aside0.mk A230
                  clear A230
                  obtain rfl := Option.some.inj H
                  go_wp2_with (first | ((with_reducible refine gate_callee (f := 48) rfl ?_); refine goesL_ (some 42) rfl rfl Tryz.func48 (by kernel_rfl) rfl #[.int .i64 a1, .int .i64 1, .int .i64 10, .int .i64 21] rfl (by (try simp only [List.map_toArray, List.map_cons, List.map_nil]); first | done | rfl | (simp only [List.length_drop, List.length_take]; rfl)) ?_; (with_reducible refine (ravelinref15_at.calls kj6 a1 1 10 21 t130 _ A20.out).mono ?_); rintro e w' ⟨rfl, ⟨nd, rfl⟩⟩; refine ⟨_, rfl, ?_⟩) | ((with_reducible refine gate_callee (f := 48) rfl ?_); refine goesL_ (some 44) rfl rfl Tryz.func48 (by kernel_rfl) rfl #[.int .i64 a1, .int .i64 11, .int .i64 1, .int .i64 20] rfl (by (try simp only [List.map_toArray, List.map_cons, List.map_nil]); first | done | rfl | (simp only [List.length_drop, List.length_take]; rfl)) ?_; (with_reducible refine (ravelinref15_at.calls kj6 a1 11 1 20 t131 _ A21.out).mono ?_); rintro e w' ⟨rfl, ⟨nd, rfl⟩⟩; refine ⟨_, rfl, ?_⟩) | ((with_reducible refine gate_callee (f := 48) rfl ?_); refine goesL_ (some 47) rfl rfl Tryz.func48 (by kernel_rfl) rfl #[.int .i64 a1, .int .i64 12, .int .i64 8, .int .i64 12] rfl (by (try simp only [List.map_toArray, List.map_cons, List.map_nil]); first | done | rfl | (simp only [List.length_drop, List.length_take]; rfl)) ?_; (with_reducible refine (ravelinref15_at.calls kj6 a1 12 8 12 t132 _ A22.out).mono ?_); rintro e w' ⟨rfl, ⟨nd, rfl⟩⟩; refine ⟨_, rfl, ?_⟩) | ((with_reducible refine gate_callee (f := 48) rfl ?_); refine goesL_ (some 50) rfl rfl Tryz.func48 (by kernel_rfl) rfl #[.int .i64 a1, .int .i64 20, .int .i64 1, .int .i64 31] rfl (by (try simp only [List.map_toArray, List.map_cons, List.map_nil]); first | done | rfl | (simp only [List.length_drop, List.length_take]; rfl)) ?_; (with_reducible refine (ravelinref15_at.calls kj6 a1 20 1 31 t133 _ A23.out).mono ?_); rintro e w' ⟨rfl, ⟨nd, rfl⟩⟩; refine ⟨_, rfl, ?_⟩))
                  go_ret
                  exact ⟨by first | rfl | (simp; done) | (simp [*]; done), by repeat (first | exact Drawn0.refl _ | apply Drawn0.step)⟩
                · rw [if_neg c19] at H
                  have c19b0 : (a0 == 8) = false := beq_eq_false_iff_ne.mpr c19
                  have c19b1 : (a0 != 8) = true := bne_iff_ne.mpr c19
                  obtain rfl := Option.some.inj H
                  go_wp2
                  go_ret
                  exact ⟨by first | rfl | (simp; done) | (simp [*]; done), by repeat (first | exact Drawn0.refl _ | apply Drawn0.step)⟩

end Go.Proofs.YtcgkgaibomcheaaGreat.PRvemuRuns
end

section
namespace Go.Proofs.YtcgkgaibomcheaaGreat.PRvemuRuns
open Go.RowKit Go.Proofs.YtcgkgaibomcheaaGreatW.PrintWords Go.Proofs.YtcgkgaibomcheaaGreatW.PrintLast Go.Proofs.YtcgkgaibomcheaaGreatW.PrintMore
attribute [local go_sem] max2_int min2_int max_two min_two max_three min_three max_four min_four   -- for this text's walks alone
set_option linter.unusedVariables false
set_option linter.unusedSimpArgs false

/-! ### ravelinref16_filled: function 36 -/
def ravelinref16_filled.l0 : Nat → List Int → Int → List Int → Int → Option (List Int)
  | 0, _, _, _, _ => none
  | k + 1, x0, x1, x5, x6 => if x6 < x1 then (if x6 < (x0.length : Int) then (if 0 ≤ x6 then (if x6 < (x5.length : Int) then (ravelinref16_filled.l0 k x0 x1 (x5.set (x6 : Int).toNat (rd x0 x6)) (wrap64 (x6 + 1))) else (none)) else (none)) else (some x5)) else (some x5)
def ravelinref16_filled.f (k : Nat) (l0 : List Int) (a1 : Int) : Option (List Int) := if 0 ≤ a1 then (if (a1 : Int).toNat ≤ 281474976710656 then (ravelinref16_filled.l0 k l0 a1 (List.replicate (a1 : Int).toNat 0) 0) else (none)) else (none)
-- NOT PRINTED: function 20 (ravelinref16_New)

-- NOT PRINTED: function 24 (ravelinref16_Machine_Place)

-- NOT PRINTED: function 22 (ravelinref16_Machine_Outcome)

-- NOT PRINTED: function 42 (ravelinref16_Machine_fails)

/-! ### ravelinref15_part: function 86 -/
def ravelinref15_part.f (k : Nat) (a0 : Int) (a1 : Int) (a2 : Int) : Option (Int) := (ravelinref01_Bits.f k (IntKind.u64.wrap (a0)) a1 a2).bind fun t247 => (some (wrap64 (t247)))
/-! ### ravelinref01_Zext: function 115 -/
def ravelinref01_Zext.l0 : Nat → Int → Int → Int → Int → Option (Int)
  | 0, _, _, _, _ => none
  | k + 1, x0, x1, x5, x6 => if x6 < x1 then (if x6 < 64 then ((ravelinref01_bit.f x0 x6).bind fun t248 => (if 0 ≤ (IntKind.u64.wrap (x6)) then (ravelinref01_Zext.l0 k x0 x1 (Go.bits .or .u64 x5 (shl .u64 t248 (IntKind.u64.wrap (x6)))) (wrap64 (x6 + 1))) else (none))) else (some x5)) else (some x5)
def ravelinref01_Zext.f (k : Nat) (a0 : Int) (a1 : Int) : Option (Int) := ravelinref01_Zext.l0 k a0 a1 0 0
set_option maxHeartbeats 8000000 in
set_option maxRecDepth 100000 in
theorem ravelinref01_Zext.calls (k : Nat) (a0 : Int) (a1 : Int) (r : Int) (w : World) (h : ravelinref01_Zext.f k a0 a1 = some r) :
    Calls Tryz.prog 115 #[.int .u64 a0, .int .i64 a1] w fun e w' => e = .returned (.int .u64 r) ∧ Drawn0 w w' := by
  have H : (ravelinref01_Zext.l0 k a0 a1 0 0) = some r := h
  clear h
  have H' := Aside0.mk H
  clear H
  go_enter Tryz.func115, Tryz.ntmps115
  go_wp2
  go_loopg [5, 6] k (fun kq v5 v6 w' => ∃ (x5_1 : Int) (x6_1 : Int), v5 = .int .u64 x5_1 ∧ v6 = .int .i64 x6_1 ∧ Aside0 (ravelinref01_Zext.l0 kq a0 a1 x5_1 x6_1 = some r) ∧ Aside0 (kq ≤ k) ∧ Drawn0 w w')
  case atStart => exact ⟨(0), (0), (by first | rfl | (simp; done) | (simp [*]; done)), (by first | rfl | (simp; done) | (simp [*]; done)), H', ⟨Nat.le_refl _⟩, by repeat (first | exact Drawn0.refl _ | apply Drawn0.step)⟩
  case round =>
    clear H'
    try clear c1
    try clear p2
    obtain ⟨x5_1, x6_1, rfl, rfl, HA, HK1, ⟨m1, rfl⟩⟩ := hrel
    cases gk with
    | zero => exact absurd HA.out (by simp [ravelinref01_Zext.l0])
    | succ k1 =>
      have H := HA.out
      clear HA
      simp only [ravelinref01_Zext.l0] at H
      by_cases c3 : x6_1 < a1
      · rw [if_pos c3] at H
        have c3b0 : decide (x6_1 < a1) = true := decide_eq_true c3
        clear c3
        by_cases c4 : x6_1 < 64
        · rw [if_pos c4] at H
          have c4b0 : decide (x6_1 < 64) = true := decide_eq_true c4
          clear c4
          replace H := Option.bind_eq_some_iff.mp H
          obtain ⟨t248, A50, H⟩ := H
          replace H : (if 0 ≤ (IntKind.u64.wrap (x6_1)) then (ravelinref01_Zext.l0 k1 a0 a1 (Go.bits .or .u64 x5_1 (shl .u64 t248 (IntKind.u64.wrap (x6_1)))) (wrap64 (x6_1 + 1))) else (none)) = some r := H
          have A5 := Aside0.mk A50
          clear A50
          obtain ⟨ji6, hji6⟩ : ∃ j_ : Int, (IntKind.u64.wrap (x6_1)) = j_ := ⟨_, rfl⟩
          replace H : (if 0 ≤ (ji6) then (ravelinref01_Zext.l0 k1 a0 a1 (Go.bits .or .u64 x5_1 (shl .u64 t248 (ji6))) (wrap64 (x6_1 + 1))) else (none)) = some r := by first | (rw [hji6] at H; exact H) | (simp only [hji6] at H ⊢; exact H)
          (try rw [hji6] at A5)
          by_cases c7 : 0 ≤ (ji6)
          · rw [if_pos c7] at H
            have c7b0 := eq_true c7
            have c7b1 : decide (0 ≤ (ji6)) = true := decide_eq_true c7
            clear c7
            obtain ⟨ji8, hji8⟩ : ∃ j_ : Int, (shl .u64 t248 (ji6)) = j_ := ⟨_, rfl⟩
            replace H : (ravelinref01_Zext.l0 k1 a0 a1 (Go.bits .or .u64 x5_1 (ji8)) (wrap64 (x6_1 + 1))) = some r := by first | (rw [hji8] at H; exact H) | (simp only [hji8] at H ⊢; exact H)
            (try rw [hji8] at A5)
            have hji8_ : (IntKind.u64.wrap (t248 * 2 ^ min (ji6).toNat 64)) = ji8 := hji8
            have hji8z : (ji6) ≤ 64 → (IntKind.u64.wrap (t248 * 2 ^ (ji6).toNat)) = ji8 := shl_small hji8
            have H' := Aside0.mk H
            clear H
            go_wp2_with (first | ((with_reducible refine gate_callee (f := 109) rfl ?_); refine goesL_ (some 19) rfl rfl Tryz.func109 (by kernel_rfl) rfl #[.int .u64 a0, .int .i64 x6_1] rfl (by (try simp only [List.map_toArray, List.map_cons, List.map_nil]); first | done | rfl | (simp only [List.length_drop, List.length_take]; rfl)) ?_; (with_reducible refine (ravelinref01_bit.calls a0 x6_1 t248 _ A5.out).mono ?_); rintro e w' ⟨rfl, ⟨nd, rfl⟩⟩; refine ⟨_, rfl, ?_⟩))
            go_roundg k1
            case measure => have := HK1.out; omega
            case rel => exact ⟨(Go.bits .or .u64 x5_1 (ji8)), (wrap64 (x6_1 + 1)), (by first | rfl | (simp; done) | (simp only [← hji8] <;> (first | rfl | simp)) | (simp [*]; done)), (by first | rfl | (simp; done) | (simp [*]; done)), H', ⟨by have := HK1.out; omega⟩, by repeat (first | exact Drawn0.refl _ | apply Drawn0.step)⟩
          · rw [if_neg c7] at H
            exact absurd H (by simp)
        · rw [if_neg c4] at H
          have c4b0 : decide (x6_1 < 64) = false := decide_eq_false c4
          clear c4
          obtain rfl := Option.some.inj H
          go_wp2
          go_ret
          exact ⟨by first | rfl | (simp; done) | (simp [*]; done), by repeat (first | exact Drawn0.refl _ | apply Drawn0.step)⟩
      · rw [if_neg c3] at H
        have c3b0 : decide (x6_1 < a1) = false := decide_eq_false c3
        clear c3
        obtain rfl := Option.some.inj H
        go_wp2
        go_ret
        exact ⟨by first | rfl | (simp; done) | (simp [*]; done), by repeat (first | exact Drawn0.refl _ | apply Drawn0.step)⟩

/-! ### ravelinref01_Sext: function 113 -/
def ravelinref01_Sext.l0 : Nat → Int → Int → Int → Int → Option (Int)
  | 0, _, _, _, _ => none
  | k + 1, x0, x1, x5, x6 => if x6 < 64 then ((ravelinref01_bit.f x0 (wrap64 (x1 - 1))).bind fun t250 => (if 0 ≤ (IntKind.u64.wrap (x6)) then (ravelinref01_Sext.l0 k x0 x1 (Go.bits .or .u64 x5 (shl .u64 t250 (IntKind.u64.wrap (x6)))) (wrap64 (x6 + 1))) else (none))) else (some (wrap64 (x5)))
def ravelinref01_Sext.f (k : Nat) (a0 : Int) (a1 : Int) : Option (Int) := if a1 < 1 then (some 0) else (if a1 ≥ 64 then (some (wrap64 (a0))) else ((ravelinref01_Zext.f k a0 a1).bind fun t249 => (ravelinref01_Sext.l0 k a0 a1 t249 a1)))
set_option maxHeartbeats 8000000 in
set_option maxRecDepth 100000 in
theorem ravelinref01_Sext.calls (k : Nat) (a0 : Int) (a1 : Int) (r : Int) (w : World) (h : ravelinref01_Sext.f k a0 a1 = some r) :
    Calls Tryz.prog 113 #[.int .u64 a0, .int .i64 a1] w fun e w' => e = .returned (.int .i64 r) ∧ Drawn0 w w' := by
  have H : (if a1 < 1 then (some 0) else (if a1 ≥ 64 then (some (wrap64 (a0))) else ((ravelinref01_Zext.f k a0 a1).bind fun t249 => (ravelinref01_Sext.l0 k a0 a1 t249 a1)))) = some r := h
  clear h
  by_cases c3 : a1 < 1
  · rw [if_pos c3] at H
    have c3b0 : decide (a1 < 1) = true := decide_eq_true c3
    clear c3
    obtain rfl := Option.some.inj H
    go_enter Tryz.func113, Tryz.ntmps113
    go_wp2
    go_ret
    exact ⟨by first | rfl | (simp; done) | (simp [*]; done), by repeat (first | exact Drawn0.refl _ | apply Drawn0.step)⟩
  · rw [if_neg c3] at H
    have c3b0 : decide (a1 < 1) = false := decide_eq_false c3
    clear c3
    by_cases c4 : a1 ≥ 64
    · rw [if_pos c4] at H
      have c4b0 : decide (64 ≤ a1) = true := decide_eq_true c4
      clear c4
      obtain rfl := Option.some.inj H
      go_enter Tryz.func113, Tryz.ntmps113
      go_wp2
      go_ret
      exact ⟨by first | rfl | (simp; done) | (simp [*]; done), by repeat (first | exact Drawn0.refl _ | apply Drawn0.step)⟩
    · rw [if_neg c4] at H
      have c4b0 : decide (64 ≤ a1) = false := decide_eq_false c4
      clear c4
      replace H := Option.bind_eq_some_iff.mp H
      obtain ⟨t249, A50, H⟩ := H
      replace H : (ravelinref01_Sext.l0 k a0 a1 t249 a1) = some r := H
      have A5 := Aside0.mk A50
      clear A50
      have H' := Aside0.mk H
      clear H
      go_enter Tryz.func113, Tryz.ntmps113
      go_wp2_with (first | ((with_reducible refine gate_callee (f := 115) rfl ?_); refine goesL_ (some 15) rfl rfl Tryz.func115 (by kernel_rfl) rfl #[.int .u64 a0, .int .i64 a1] rfl (by (try simp only [List.map_toArray, List.map_cons, List.map_nil]); first | done | rfl | (simp only [List.length_drop, List.length_take]; rfl)) ?_; (with_reducible refine (ravelinref01_Zext.calls k a0 a1 t249 _ A5.out).mono ?_); rintro e w' ⟨rfl, ⟨nd, rfl⟩⟩; refine ⟨_, rfl, ?_⟩))
      go_loopg [5, 6] k (fun kq v5 v6 w' => ∃ (x5_1 : Int) (x6_1 : Int), v5 = .int .u64 x5_1 ∧ v6 = .int .i64 x6_1 ∧ Aside0 (ravelinref01_Sext.l0 kq a0 a1 x5_1 x6_1 = some r) ∧ Aside0 (kq ≤ k) ∧ Drawn0 w w')
      case atStart => exact ⟨(t249), (a1), (by first | rfl | (simp; done) | (simp [*]; done)), (by first | rfl | (simp; done) | (simp [*]; done)), H', ⟨Nat.le_refl _⟩, by repeat (first | exact Drawn0.refl _ | apply Drawn0.step)⟩
      case round =>
        clear H'
        try clear c1
        try clear p2
        try clear c3
        try clear c3b0
        try clear c4
        try clear c4b0
        obtain ⟨x5_1, x6_1, rfl, rfl, HA, HK1, ⟨m1, rfl⟩⟩ := hrel
        cases gk with
        | zero => exact absurd HA.out (by simp [ravelinref01_Sext.l0])
        | succ k1 =>
          have H := HA.out
          clear HA
          simp only [ravelinref01_Sext.l0] at H
          by_cases c6 : x6_1 < 64
          · rw [if_pos c6] at H
            have c6b0 : decide (x6_1 < 64) = true := decide_eq_true c6
            clear c6
            replace H := Option.bind_eq_some_iff.mp H
            obtain ⟨t250, A70, H⟩ := H
            replace H : (if 0 ≤ (IntKind.u64.wrap (x6_1)) then (ravelinref01_Sext.l0 k1 a0 a1 (Go.bits .or .u64 x5_1 (shl .u64 t250 (IntKind.u64.wrap (x6_1)))) (wrap64 (x6_1 + 1))) else (none)) = some r := H
            have A7 := Aside0.mk A70
            clear A70
            obtain ⟨ji8, hji8⟩ : ∃ j_ : Int, (IntKind.u64.wrap (x6_1)) = j_ := ⟨_, rfl⟩
            replace H : (if 0 ≤ (ji8) then (ravelinref01_Sext.l0 k1 a0 a1 (Go.bits .or .u64 x5_1 (shl .u64 t250 (ji8))) (wrap64 (x6_1 + 1))) else (none)) = some r := by first | (rw [hji8] at H; exact H) | (simp only [hji8] at H ⊢; exact H)
            (try rw [hji8] at A7)
            by_cases c9 : 0 ≤ (ji8)
            · rw [if_pos c9] at H
              have c9b0 := eq_true c9
              have c9b1 : decide (0 ≤ (ji8)) = true := decide_eq_true c9
              clear c9
              obtain ⟨ji10, hji10⟩ : ∃ j_ : Int, (shl .u64 t250 (ji8)) = j_ := ⟨_, rfl⟩
              replace H : (ravelinref01_Sext.l0 k1 a0 a1 (Go.bits .or .u64 x5_1 (ji10)) (wrap64 (x6_1 + 1))) = some r := by first | (rw [hji10] at H; exact H) | (simp only [hji10] at H ⊢; exact H)
              (try rw [hji10] at A7)
              have hji10_ : (IntKind.u64.wrap (t250 * 2 ^ min (ji8).toNat 64)) = ji10 := hji10
              have hji10z : (ji8) ≤ 64 → (IntKind.u64.wrap (t250 * 2 ^ (ji8).toNat)) = ji10 := shl_small hji10
              have H' := Aside0.mk H
              clear H
              go_wp2_with (first | ((with_reducible refine gate_callee (f := 109) rfl ?_); refine goesL_ (some 25) rfl rfl Tryz.func109 (by kernel_rfl) rfl #[.int .u64 a0, .int .i64 (wrap64 (a1 - 1))] rfl (by (try simp only [List.map_toArray, List.map_cons, List.map_nil]); first | done | rfl | (simp only [List.length_drop, List.length_take]; rfl)) ?_; (with_reducible refine (ravelinref01_bit.calls a0 (wrap64 (a1 - 1)) t250 _ A7.out).mono ?_); rintro e w' ⟨rfl, ⟨nd, rfl⟩⟩; refine ⟨_, rfl, ?_⟩))
              go_roundg k1
              case measure => have := HK1.out; omega
              case rel => exact ⟨(Go.bits .or .u64 x5_1 (ji10)), (wrap64 (x6_1 + 1)), (by first | rfl | (simp; done) | (simp only [← hji10] <;> (first | rfl | simp)) | (simp [*]; done)), (by first | rfl | (simp; done) | (simp [*]; done)), H', ⟨by have := HK1.out; omega⟩, by repeat (first | exact Drawn0.refl _ | apply Drawn0.step)⟩
            · rw [if_neg c9] at H
              exact absurd H (by simp)
          · rw [if_neg c6] at H
            have c6b0 : decide (x6_1 < 64) = false := decide_eq_false c6
            clear c6
            obtain rfl := Option.some.inj H
            go_wp2
            go_ret
            exact ⟨by first | rfl | (simp; done) | (simp [*]; done), by repeat (first | exact Drawn0.refl _ | apply Drawn0.step)⟩

/-! ### ravelinref15_signed: function 105 -/
def ravelinref15_signed.f (k : Nat) (a0 : Int) (a1 : Int) : Option (Int) := (ravelinref01_Sext.f k (IntKind.u64.wrap (a0)) a1).bind fun t251 => (some t251)
/-! ### ravelinref15_take: function 87 -/
def ravelinref15_take.f (k : Nat) (a0 : Int) (a1 : Int) : Option (Int) := if a0 = 1 then ((ravelinref15_part.f k a1 12 20).bind fun t252 => (some t252)) else (if a0 = 2 then ((ravelinref15_part.f k a1 20 12).bind fun t253 => ((ravelinref15_signed.f k t253 12).bind fun t254 => (some t254))) else (if a0 = 3 then ((ravelinref15_part.f k a1 20 6).bind fun t255 => (some t255)) else (if a0 = 4 then ((ravelinref15_part.f k a1 20 5).bind fun t256 => (some t256)) else (if a0 = 5 then ((ravelinref15_part.f k a1 7 5).bind fun t257 => ((ravelinref15_part.f k a1 25 7).bind fun t258 => ((ravelinref15_signed.f k (Go.bits .or .i64 t257 (wrap64 (t258 * 32))) 12).bind fun t259 => (some t259)))) else (if a0 = 7 then ((ravelinref15_part.f k a1 8 4).bind fun t260 => ((ravelinref15_part.f k a1 25 6).bind fun t261 => ((ravelinref15_part.f k a1 7 1).bind fun t262 => ((ravelinref15_part.f k a1 31 1).bind fun t263 => ((ravelinref15_signed.f k (Go.bits .or .i64 (Go.bits .or .i64 (Go.bits .or .i64 (wrap64 (t260 * 2)) (wrap64 (t261 * 32))) (wrap64 (t262 * 2048))) (wrap64 (t263 * 4096))) 13).bind fun t264 => (some t264)))))) else (if a0 = 8 then ((ravelinref15_part.f k a1 21 10).bind fun t265 => ((ravelinref15_part.f k a1 20 1).bind fun t266 => ((ravelinref15_part.f k a1 12 8).bind fun t267 => ((ravelinref15_part.f k a1 31 1).bind fun t268 => ((ravelinref15_signed.f k (Go.bits .or .i64 (Go.bits .or .i64 (Go.bits .or .i64 (wrap64 (t265 * 2)) (wrap64 (t266 * 2048))) (wrap64 (t267 * 4096))) (wrap64 (t268 * 1048576))) 21).bind fun t269 => (some t269)))))) else (some 0)))))))
end Go.Proofs.YtcgkgaibomcheaaGreat.PRvemuRuns
end

section
-- A PRINTED TEXT, BUT FOR ONE FACT MORE (hdivq)
namespace Go.Proofs.YtcgkgaibomcheaaGreat.PRvemuRuns
open Go.RowKit Go.Proofs.YtcgkgaibomcheaaGreatW.PrintWords Go.Proofs.YtcgkgaibomcheaaGreatW.PrintLast Go.Proofs.YtcgkgaibomcheaaGreatW.PrintMore
attribute [local go_sem] max2_int min2_int max_two min_two max_three min_three max_four min_four   -- for this text's walks alone
set_option linter.unusedVariables false
set_option linter.unusedSimpArgs false

/-! ### ravelinref01_Load: function 88 -/
mutual
def ravelinref01_Load.j0 : Nat → List Int → Int → Int → Bool → Option (Int × Int)
  | 0, _, _, _, _ => none
  | k + 1, x0, x1, x2, x33 => if x33 = true then (some (0, 1)) else (ravelinref01_Load.l0 k x0 x1 0 (wrap64 (x2 - 1)))
def ravelinref01_Load.l0 : Nat → List Int → Int → Int → Int → Option (Int × Int)
  | 0, _, _, _, _ => none
  | k + 1, x0, x1, x8, x9 => if x9 ≥ 0 then (if 0 ≤ (wrap64 (x1 + x9)) then (if (wrap64 (x1 + x9)) < (x0.length : Int) then (ravelinref01_Load.l0 k x0 x1 (Go.bits .or .u64 (IntKind.u64.wrap (x8 * 256)) (IntKind.u64.wrap (rd x0 (wrap64 (x1 + x9))))) (wrap64 (x9 - 1))) else (none)) else (none)) else (some (x8, 0))
end
def ravelinref01_Load.f (k : Nat) (l0 : List Int) (a1 : Int) (a2 : Int) : Option (Int × Int) := if a2 < 1 then (ravelinref01_Load.j0 k l0 a1 a2 true) else (if a2 > 8 then (ravelinref01_Load.j0 k l0 a1 a2 true) else (if a1 < 0 then (ravelinref01_Load.j0 k l0 a1 a2 true) else (if a1 > (l0.length : Int) then (ravelinref01_Load.j0 k l0 a1 a2 true) else (ravelinref01_Load.j0 k l0 a1 a2 (decide (a2 > (wrap64 ((l0.length : Int) - a1))))))))
set_option maxHeartbeats 8000000 in
set_option maxRecDepth 100000 in
theorem ravelinref01_Load.calls (k : Nat) (A0 : Option Addr) (c0 : Nat) (l0 : List Int) (a1 : Int) (a2 : Int) (r1 : Int) (r2 : Int) (w : World) (hr0 : Kd.C (Kd.int .u8) w A0 l0.length l0) (hc0 : l0.length ≤ c0) (h : ravelinref01_Load.f k l0 a1 a2 = some (r1, r2)) :
    Calls Tryz.prog 88 #[.slice A0 l0.length c0, .int .i64 a1, .int .i64 a2] w fun e w' => e = .returned (.tuple #[.int .u64 r1, .int .i64 r2]) ∧ Drawn0 w w' := by
  have HR0 := Aside0.mk hr0
  have HC0 := Aside0.mk hc0
  clear hr0 hc0
  have H : (if a2 < 1 then (ravelinref01_Load.j0 k l0 a1 a2 true) else (if a2 > 8 then (ravelinref01_Load.j0 k l0 a1 a2 true) else (if a1 < 0 then (ravelinref01_Load.j0 k l0 a1 a2 true) else (if a1 > (l0.length : Int) then (ravelinref01_Load.j0 k l0 a1 a2 true) else (ravelinref01_Load.j0 k l0 a1 a2 (decide (a2 > (wrap64 ((l0.length : Int) - a1))))))))) = some (r1, r2) := h
  clear h
  have HC4 := Aside0.mk H
  clear H
  go_enter Tryz.func88, Tryz.ntmps88
  go_upto_region 1 with (fail)
  go_cut [33] (fun v33 wc => ∃ (kq : Nat) (x33_3 : Bool), v33 = .bool x33_3 ∧ Aside0 (ravelinref01_Load.j0 kq l0 a1 a2 x33_3 = some (r1, r2)) ∧ Aside0 (kq ≤ k) ∧ Drawn0 w wc)
  case first =>
    have H := HC4.out
    clear HC4
    by_cases c5 : a2 < 1
    · rw [if_pos c5] at H
      have c5b0 : decide (a2 < 1) = true := decide_eq_true c5
      clear c5
      (first | rw [c5b0] | (simp only [i64_w, i32_w]; rw [c5b0]) | skip)
      have H' := Aside0.mk H
      clear H
      go_wp2
      go_meet
      case rel => exact ⟨_, (true), (by first | rfl | (simp; done) | (simp [*]; done)), H', ⟨by first | omega | exact Nat.le_refl _⟩, by repeat (first | exact Drawn0.refl _ | apply Drawn0.step)⟩
    · rw [if_neg c5] at H
      have c5b0 : decide (a2 < 1) = false := decide_eq_false c5
      clear c5
      (first | rw [c5b0] | (simp only [i64_w, i32_w]; rw [c5b0]) | skip)
      by_cases c6 : a2 > 8
      · rw [if_pos c6] at H
        have c6b0 : decide (8 < a2) = true := decide_eq_true c6
        clear c6
        have H' := Aside0.mk H
        clear H
        go_wp2
        go_meet
        case rel => exact ⟨_, (true), (by first | rfl | (simp; done) | (simp [*]; done)), H', ⟨by first | omega | exact Nat.le_refl _⟩, by repeat (first | exact Drawn0.refl _ | apply Drawn0.step)⟩
      · rw [if_neg c6] at H
        have c6b0 : decide (8 < a2) = false := decide_eq_false c6
        clear c6
        by_cases c7 : a1 < 0
        · rw [if_pos c7] at H
          have c7b0 : decide (a1 < 0) = true := decide_eq_true c7
          clear c7
          have H' := Aside0.mk H
          clear H
          go_wp2
          go_meet
          case rel => exact ⟨_, (true), (by first | rfl | (simp; done) | (simp [*]; done)), H', ⟨by first | omega | exact Nat.le_refl _⟩, by repeat (first | exact Drawn0.refl _ | apply Drawn0.step)⟩
        · rw [if_neg c7] at H
          have c7b0 : decide (a1 < 0) = false := decide_eq_false c7
          clear c7
          by_cases c8 : a1 > (l0.length : Int)
          · rw [if_pos c8] at H
            have c8b0 : decide ((l0.length : Int) < a1) = true := decide_eq_true c8
            clear c8
            have H' := Aside0.mk H
            clear H
            go_wp2
            go_meet
            case rel => exact ⟨_, (true), (by first | rfl | (simp; done) | (simp [*]; done)), H', ⟨by first | omega | exact Nat.le_refl _⟩, by repeat (first | exact Drawn0.refl _ | apply Drawn0.step)⟩
          · rw [if_neg c8] at H
            have c8b0 : decide ((l0.length : Int) < a1) = false := decide_eq_false c8
            clear c8
            have H' := Aside0.mk H
            clear H
            go_wp2
            go_meet
            case rel => exact ⟨_, (decide (a2 > (wrap64 ((l0.length : Int) - a1)))), (by first | rfl | (simp; done) | (simp [*]; done)), H', ⟨by first | omega | exact Nat.le_refl _⟩, by repeat (first | exact Drawn0.refl _ | apply Drawn0.step)⟩
  case rest =>
    clear HC4
    try clear p2
    try clear c5
    try clear c5b0
    try clear c6
    try clear c6b0
    try clear p6
    try clear c7
    try clear c7b0
    try clear c8
    try clear c8b0
    obtain ⟨kq, x33_3, rfl, HA, HJ3, ⟨mc3, rfl⟩⟩ := hcut
    cases kq with
    | zero => exact absurd HA.out (by simp [ravelinref01_Load.j0])
    | succ kj3 =>
      have H := HA.out
      clear HA
      simp only [ravelinref01_Load.j0] at H
      by_cases c9 : x33_3 = true
      · subst c9
        have H1 : (some (0, 1)) = some (r1, r2) := by rw [if_pos rfl] at H; exact H
        clear H
        have H := H1
        clear H1
        simp only [Option.some.injEq, Prod.mk.injEq] at H
        obtain ⟨rfl, rfl⟩ := H
        go_wp2
        go_ret2
        exact ⟨by first | rfl | (simp; done) | (simp [*]; done), by repeat (first | exact Drawn0.refl _ | apply Drawn0.step)⟩
      · replace c9 := Bool.eq_false_iff.mpr c9
        subst c9
        have H1 : (ravelinref01_Load.l0 kj3 l0 a1 0 (wrap64 (a2 - 1))) = some (r1, r2) := by rw [if_neg (show ¬ (false = true) by decide)] at H; exact H
        clear H
        have H := H1
        clear H1
        have H' := Aside0.mk H
        clear H
        go_wp2
        go_loopg [8, 9] kj3 (fun kq v8 v9 w' => ∃ (x8_2 : Int) (x9_2 : Int), v8 = .int .u64 x8_2 ∧ v9 = .int .i64 x9_2 ∧ Aside0 (ravelinref01_Load.l0 kq l0 a1 x8_2 x9_2 = some (r1, r2)) ∧ Aside0 (kq ≤ kj3) ∧ Drawn0 w w')
        case atStart => exact ⟨(0), (wrap64 (a2 - 1)), (by first | rfl | (simp; done) | (simp [*]; done)), (by first | rfl | (simp; done) | (simp [*]; done)), H', ⟨Nat.le_refl _⟩, by repeat (first | exact Drawn0.refl _ | apply Drawn0.step)⟩
        case round =>
          clear H'
          try clear p2
          try clear c3
          try clear c5
          try clear c5b0
          try clear c6
          try clear c6b0
          try clear p6
          try clear c7
          try clear c7b0
          try clear c8
          try clear c8b0
          try clear c9
          try clear p2
          try clear p6
          obtain ⟨x8_2, x9_2, rfl, rfl, HA, HK2, ⟨m2, rfl⟩⟩ := hrel
          cases gk with
          | zero => exact absurd HA.out (by simp [ravelinref01_Load.l0])
          | succ k2 =>
            have H := HA.out
            clear HA
            simp only [ravelinref01_Load.l0] at H
            by_cases c10 : x9_2 ≥ 0
            · rw [if_pos c10] at H
              have c10b0 : decide (0 ≤ x9_2) = true := decide_eq_true c10
              clear c10
              obtain ⟨ji11, hji11⟩ : ∃ j_ : Int, (wrap64 (a1 + x9_2)) = j_ := ⟨_, rfl⟩
              replace H : (if 0 ≤ (ji11) then (if (ji11) < (l0.length : Int) then (ravelinref01_Load.l0 k2 l0 a1 (Go.bits .or .u64 (IntKind.u64.wrap (x8_2 * 256)) (IntKind.u64.wrap (rd l0 (ji11)))) (wrap64 (x9_2 - 1))) else (none)) else (none)) = some (r1, r2) := by first | (rw [hji11] at H; exact H) | (simp only [hji11] at H ⊢; exact H)
              have hji11w : (IntKind.i64.wrap (a1 + x9_2)) = ji11 := (i64_w _).trans hji11
              by_cases c12 : 0 ≤ (ji11)
              · rw [if_pos c12] at H
                have c12b0 : decide (0 ≤ (ji11)) = true := decide_eq_true c12
                clear c12
                by_cases c13 : (ji11) < (l0.length : Int)
                · rw [if_pos c13] at H
                  have c13b0 : decide ((ji11) < (l0.length : Int)) = true := decide_eq_true c13
                  clear c13
                  have H' := Aside0.mk H
                  clear H
                  have p291 : 0 ≤ ((ji11) : Int) := of_decide_eq_true (by first | (with_reducible assumption) | assumption)
                  have q291 : (ji11) < (l0.length : Int) := of_decide_eq_true (by first | (with_reducible assumption) | assumption)
                  obtain ⟨ad291, e291, hx291_0⟩ := Kd.at_int HR0.out (ji11) p291 q291
                  cases e291
                  replace p291 := eq_true p291
                  replace q291 := eq_true q291
                  go_wp2
                  go_roundg k2
                  case measure => have := HJ3.out; have := HK2.out; omega
                  case rel => exact ⟨(Go.bits .or .u64 (IntKind.u64.wrap (x8_2 * 256)) (IntKind.u64.wrap (rd l0 (ji11)))), (wrap64 (x9_2 - 1)), (by first | rfl | (simp; done) | (simp only [← hji11] <;> (first | rfl | simp)) | (simp [*]; done)), (by first | rfl | (simp; done) | (simp [*]; done)), H', ⟨by have := HJ3.out; have := HK2.out; omega⟩, by repeat (first | exact Drawn0.refl _ | apply Drawn0.step)⟩
                · rw [if_neg c13] at H
                  exact absurd H (by simp)
              · rw [if_neg c12] at H
                exact absurd H (by simp)
            · rw [if_neg c10] at H
              have c10b0 : decide (0 ≤ x9_2) = false := decide_eq_false c10
              clear c10
              simp only [Option.some.injEq, Prod.mk.injEq] at H
              obtain ⟨rfl, rfl⟩ := H
              go_wp2
              go_ret2
              exact ⟨by first | rfl | (simp; done) | (simp [*]; done), by repeat (first | exact Drawn0.refl _ | apply Drawn0.step)⟩

/-! ### ravelinref15_Word: function 44 -/
def ravelinref15_Word.f (k : Nat) (l0 : List Int) (a1 : Int) : Option (Int) := (ravelinref01_Load.f k l0 a1 4).bind fun bt292 => (some ((bt292.1) % 4294967296))
set_option maxHeartbeats 8000000 in
set_option maxRecDepth 100000 in
theorem ravelinref15_Word.calls (k : Nat) (A0 : Option Addr) (c0 : Nat) (l0 : List Int) (a1 : Int) (r : Int) (w : World) (hr0 : Kd.C (Kd.int .u8) w A0 l0.length l0) (hc0 : l0.length ≤ c0) (h : ravelinref15_Word.f k l0 a1 = some r) :
    Calls Tryz.prog 44 #[.slice A0 l0.length c0, .int .i64 a1] w fun e w' => e = .returned (.int .u32 r) ∧ Drawn0 w w' := by
  have HR0 := Aside0.mk hr0
  have HC0 := Aside0.mk hc0
  clear hr0 hc0
  have H : ((ravelinref01_Load.f k l0 a1 4).bind fun bt292 => (some ((bt292.1) % 4294967296))) = some r := h
  clear h
  replace H := Option.bind_eq_some_iff.mp H
  obtain ⟨⟨t292, t293⟩, A30, H⟩ := H
  replace H : (some ((t292) % 4294967296)) = some r := H
  have A3 := Aside0.mk A30
  clear A30
  obtain rfl := Option.some.inj H
  go_enter Tryz.func44, Tryz.ntmps44
  go_wp2_with (first | ((with_reducible refine gate_callee (f := 88) rfl ?_); refine goesL_ (some 10) rfl rfl Tryz.func88 (by kernel_rfl) rfl #[.slice A0 l0.length c0, .int .i64 a1, .int .i64 4] rfl (by (try simp only [List.map_toArray, List.map_cons, List.map_nil]); first | done | rfl | (simp only [List.length_drop, List.length_take]; rfl)) ?_; (with_reducible refine (ravelinref01_Load.calls k _ _ l0 a1 4 t292 t293 _ ?side1 ?side2 A3.out).mono ?_); (case side1 => repeat (first | exact HR0.out | (with_reducible refine Kd.C_alloc ?_ _) | (with_reducible refine Kd.C_drewN ?_ _) | (with_reducible refine Kd.C_drew ?_))); (case side2 => exact HC0.out); rintro e w' ⟨rfl, ⟨nd, rfl⟩⟩; refine ⟨_, rfl, ?_⟩))
  go_ret
  exact ⟨by first | rfl | (simp; done) | (simp [*]; done), by repeat (first | exact Drawn0.refl _ | apply Drawn0.step)⟩

/-! ### ravelinref16_short: function 106 -/
def ravelinref16_short.f (k : Nat) (a0 : Int) : Option (Int) := (ravelinref01_Sext.f k a0 32).bind fun t294 => (some (IntKind.u64.wrap (t294)))
set_option maxHeartbeats 8000000 in
set_option maxRecDepth 100000 in
theorem ravelinref16_short.calls (k : Nat) (a0 : Int) (r : Int) (w : World) (h : ravelinref16_short.f k a0 = some r) :
    Calls Tryz.prog 106 #[.int .u64 a0] w fun e w' => e = .returned (.int .u64 r) ∧ Drawn0 w w' := by
  have H : ((ravelinref01_Sext.f k a0 32).bind fun t294 => (some (IntKind.u64.wrap (t294)))) = some r := h
  clear h
  replace H := Option.bind_eq_some_iff.mp H
  obtain ⟨t294, A20, H⟩ := H
  replace H : (some (IntKind.u64.wrap (t294))) = some r := H
  have A2 := Aside0.mk A20
  clear A20
  obtain rfl := Option.some.inj H
  go_enter Tryz.func106, Tryz.ntmps106
  go_wp2_with (first | ((with_reducible refine gate_callee (f := 113) rfl ?_); refine goesL_ (some 4) rfl rfl Tryz.func113 (by kernel_rfl) rfl #[.int .u64 a0, .int .i64 32] rfl (by (try simp only [List.map_toArray, List.map_cons, List.map_nil]); first | done | rfl | (simp only [List.length_drop, List.length_take]; rfl)) ?_; (with_reducible refine (ravelinref01_Sext.calls k a0 32 t294 _ A2.out).mono ?_); rintro e w' ⟨rfl, ⟨nd, rfl⟩⟩; refine ⟨_, rfl, ?_⟩))
  go_ret
  exact ⟨by first | rfl | (simp; done) | (simp [*]; done), by repeat (first | exact Drawn0.refl _ | apply Drawn0.step)⟩

/-! ### ravelinref16_two: function 89 -/
def ravelinref16_two.f (k : Nat) (a0 : Int) (a1 : Int) (a2 : Int) : Option (Int × Int) := if a0 = 16 then (some (IntKind.u64.wrap (a1 + a2), 0)) else (if a0 = 17 then (some (IntKind.u64.wrap (a1 - a2), 0)) else (if a0 = 20 then (some (Go.bits .xor .u64 a1 a2, 0)) else (if a0 = 19 then (some (Go.bits .or .u64 a1 a2, 0)) else (if a0 = 18 then (some (Go.bits .and .u64 a1 a2, 0)) else (if a0 = 21 then (if 0 ≤ (Go.bits .and .u64 a2 63) then (some (shl .u64 a1 (Go.bits .and .u64 a2 63), 0)) else (none)) else (if a0 = 22 then (if 0 ≤ (Go.bits .and .u64 a2 63) then (some (shr .u64 a1 (Go.bits .and .u64 a2 63), 0)) else (none)) else (if a0 = 23 then ((ravelinref16_short.f k (IntKind.u64.wrap (a1 + a2))).bind fun t295 => (some (t295, 0))) else (if a0 = 24 then ((ravelinref16_short.f k (IntKind.u64.wrap (a1 - a2))).bind fun t296 => (some (t296, 0))) else (if a0 = 25 then ((ravelinref16_short.f k (IntKind.u64.wrap (a1 * a2))).bind fun t297 => (some (t297, 0))) else (if a0 = 27 then (if 0 ≤ (Go.bits .and .u64 a2 31) then ((ravelinref16_short.f k (shl .u64 a1 (Go.bits .and .u64 a2 31))).bind fun t298 => (some (t298, 0))) else (none)) else (if a0 = 28 then (if 0 ≤ (Go.bits .and .u64 a2 31) then ((ravelinref16_short.f k (shr .u64 (Go.bits .and .u64 a1 4294967295) (Go.bits .and .u64 a2 31))).bind fun t299 => (some (t299, 0))) else (none)) else (if ((a2) % 4294967296) = 0 then (some (0, 8)) else ((ravelinref16_short.f k ((((a1) % 4294967296) / ((a2) % 4294967296)) % 4294967296)).bind fun t300 => (some (t300, 0)))))))))))))))
-- NOT PRINTED: function 90 (ravelinref16_Machine_set)

/-! ### ravelinref16_asks: function 91 -/
def ravelinref16_asks.f (a0 : Int) (a1 : Int) (a2 : Int) : Option (Bool) := if a0 = 29 then (some (a1 == a2)) else (if a0 = 30 then (some (a1 != a2)) else (if a0 = 31 then (some (decide (a1 < a2))) else (some (decide (a1 ≥ a2)))))
/-! ### ravelinref16_within: function 46 -/
def ravelinref16_within.f (a0 : Int) (a1 : Int) (a2 : Int) (a3 : Int) : Option (Bool) := if a0 ≥ a2 then (if (IntKind.u64.wrap (a0 - a2)) ≤ (IntKind.u64.wrap (a3)) then (some (decide ((IntKind.u64.wrap (a1)) ≤ (IntKind.u64.wrap ((IntKind.u64.wrap (a3)) - (IntKind.u64.wrap (a0 - a2))))))) else (some false)) else (some false)
set_option maxHeartbeats 8000000 in
set_option maxRecDepth 100000 in
theorem ravelinref16_within.calls (a0 : Int) (a1 : Int) (a2 : Int) (a3 : Int) (r : Bool) (w : World) (h : ravelinref16_within.f a0 a1 a2 a3 = some r) :
    Calls Tryz.prog 46 #[.int .u64 a0, .int .i64 a1, .int .u64 a2, .int .i64 a3] w fun e w' => e = .returned (.bool r) ∧ Drawn0 w w' := by
  have H : (if a0 ≥ a2 then (if (IntKind.u64.wrap (a0 - a2)) ≤ (IntKind.u64.wrap (a3)) then (some (decide ((IntKind.u64.wrap (a1)) ≤ (IntKind.u64.wrap ((IntKind.u64.wrap (a3)) - (IntKind.u64.wrap (a0 - a2))))))) else (some false)) else (some false)) = some r := h
  clear h
  by_cases c5 : a0 ≥ a2
  · rw [if_pos c5] at H
    have c5b0 : decide (a2 ≤ a0) = true := decide_eq_true c5
    clear c5
    by_cases c6 : (IntKind.u64.wrap (a0 - a2)) ≤ (IntKind.u64.wrap (a3))
    · rw [if_pos c6] at H
      have c6b0 : decide ((IntKind.u64.wrap (a0 - a2)) ≤ (IntKind.u64.wrap (a3))) = true := decide_eq_true c6
      clear c6
      obtain rfl := Option.some.inj H
      go_enter Tryz.func46, Tryz.ntmps46
      go_wp2
      go_ret
      exact ⟨by first | rfl | (simp; done) | (simp [*]; done), by repeat (first | exact Drawn0.refl _ | apply Drawn0.step)⟩
    · rw [if_neg c6] at H
      have c6b0 : decide ((IntKind.u64.wrap (a0 - a2)) ≤ (IntKind.u64.wrap (a3))) = false := decide_eq_false c6
      clear c6
      obtain rfl := Option.some.inj H
      go_enter Tryz.func46, Tryz.ntmps46
      go_wp2
      go_ret
      exact ⟨by first | rfl | (simp; done) | (simp [*]; done), by repeat (first | exact Drawn0.refl _ | apply Drawn0.step)⟩
  · rw [if_neg c5] at H
    have c5b0 : decide (a2 ≤ a0) = false := decide_eq_false c5
    clear c5
    obtain rfl := Option.some.inj H
    go_enter Tryz.func46, Tryz.ntmps46
    go_wp2
    go_ret
    exact ⟨by first | rfl | (simp; done) | (simp [*]; done), by repeat (first | exact Drawn0.refl _ | apply Drawn0.step)⟩

end Go.Proofs.YtcgkgaibomcheaaGreat.PRvemuRuns
end

section
namespace Go.Proofs.YtcgkgaibomcheaaGreat.PRvemuRuns
open Go.RowKit Go.Proofs.YtcgkgaibomcheaaGreatW.PrintWords Go.Proofs.YtcgkgaibomcheaaGreatW.PrintLast Go.Proofs.YtcgkgaibomcheaaGreatW.PrintMore
attribute [local go_sem] max2_int min2_int max_two min_two max_three min_three max_four min_four   -- for this text's walks alone
set_option linter.unusedVariables false
set_option linter.unusedSimpArgs false

/-! ### ravelinref01_Store: function 107 -/
mutual
def ravelinref01_Store.j0 : Nat → Int → Int → Int → List Int → Bool → Option (List Int × Int)
  | 0, _, _, _, _, _ => none
  | k + 1, x1, x2, x3, x10, x38 => if x38 = true then (some (x10, 1)) else (ravelinref01_Store.l0 k x1 x2 x3 x10 0)
def ravelinref01_Store.l0 : Nat → Int → Int → Int → List Int → Int → Option (List Int × Int)
  | 0, _, _, _, _, _ => none
  | k + 1, x1, x2, x3, x10, x11 => if x11 < x2 then (if 0 ≤ (IntKind.u64.wrap (wrap64 (8 * x11))) then (if 0 ≤ (wrap64 (x1 + x11)) then (if (wrap64 (x1 + x11)) < (x10.length : Int) then (ravelinref01_Store.l0 k x1 x2 x3 (x10.set ((wrap64 (x1 + x11)) : Int).toNat ((shr .u64 x3 (IntKind.u64.wrap (wrap64 (8 * x11)))) % 256)) (wrap64 (x11 + 1))) else (none)) else (none)) else (none)) else (some (x10, 0))
end
def ravelinref01_Store.f (k : Nat) (l0 : List Int) (a1 : Int) (a2 : Int) (a3 : Int) : Option (List Int × Int) := (some (([] : List Int) : List Int)).bind fun y301 => (if y301.length + l0.length < 140737488355328 then ((some (y301 ++ l0 : List Int)).bind fun y304 => (if a2 < 1 then (ravelinref01_Store.j0 k a1 a2 a3 y304 true) else (if a2 > 8 then (ravelinref01_Store.j0 k a1 a2 a3 y304 true) else (if a1 < 0 then (ravelinref01_Store.j0 k a1 a2 a3 y304 true) else (if a1 > (l0.length : Int) then (ravelinref01_Store.j0 k a1 a2 a3 y304 true) else (ravelinref01_Store.j0 k a1 a2 a3 y304 (decide (a2 > (wrap64 ((l0.length : Int) - a1)))))))))) else (none))
-- NOT PRINTED: function 92 (ravelinref16_Machine_store)

-- NOT PRINTED: function 108 (ravelinref16_Machine_load)

-- NOT PRINTED: function 93 (ravelinref16_Machine_one)

-- NOT PRINTED: function 45 (ravelinref16_Machine_does)

-- NOT PRINTED: function 26 (ravelinref16_Machine_Step)

-- NOT PRINTED: function 15 (ravelinref16_Run)

end Go.Proofs.YtcgkgaibomcheaaGreat.PRvemuRuns
end

section
/- Plain lemmas on the bytes of words: written (st) and read (ld), the lowest first. Conditions: those of each lemma. -/
namespace Go.Proofs.YtcgkgaibomcheaaGreat.Bits
open Go.RowKit Go.Proofs.YtcgkgaibomcheaaGreatW.PrintWords Go.Proofs.YtcgkgaibomcheaaGreatW.PrintLast Go.Proofs.YtcgkgaibomcheaaGreatW.PrintMore

/-- A byte of a word. -/
def byteOf (v : BitVec 64) (i : Nat) : Int := (((v >>> (8 * i)).toNat % 256 : Nat) : Int)
theorem byteOf_range (v : BitVec 64) (i : Nat) : 0 ≤ byteOf v i ∧ byteOf v i < 256 := by unfold byteOf; omega
/-- The bytes of a word written from a place on. -/
def st (l : List Int) (a : Nat) (v : BitVec 64) : Nat → List Int
  | 0 => l
  | i + 1 => (st l a v i).set (a + i) (byteOf v i)
theorem st_length (l : List Int) (a : Nat) (v : BitVec 64) : ∀ i, (st l a v i).length = l.length
  | 0 => rfl
  | i + 1 => by unfold st; rw [List.length_set, st_length l a v i]
theorem st_at (l : List Int) (a : Nat) (v : BitVec 64) : ∀ (i j : Nat), j < l.length → (st l a v i).getD j 0 = if a ≤ j ∧ j < a + i then byteOf v (j - a) else l.getD j 0
  | 0, j, _ => by rw [if_neg (by omega)]; rfl
  | i + 1, j, hj => by
    unfold st
    rw [List.getD_eq_getElem?_getD, List.getElem?_set]
    by_cases e : a + i = j
    · subst e
      have hl := st_length l a v i
      rw [if_pos rfl, if_pos (by omega), if_pos (by omega)]
      have : a + i - a = i := by omega
      rw [this]
      rfl
    · rw [if_neg e, ← List.getD_eq_getElem?_getD, st_at l a v i j hj]
      by_cases h : a ≤ j ∧ j < a + i
      · rw [if_pos h, if_pos (by omega)]
      · rw [if_neg h, if_neg (by omega)]
/-- The number of so many bytes, the lowest first. -/
def ld (l : List Int) (a : Nat) : Nat → BitVec 64
  | 0 => 0#64
  | i + 1 => ld l a i ||| (BitVec.ofNat 64 (l.getD (a + i) 0).toNat <<< (8 * i))
def isBytes (l : List Int) : Prop := ∀ x ∈ l, 0 ≤ x ∧ x < 256
theorem isBytes_at {l : List Int} (h : isBytes l) (j : Nat) : 0 ≤ l.getD j 0 ∧ l.getD j 0 < 256 := by
  rw [List.getD_eq_getElem?_getD]
  cases hx : l[j]? with
  | none => simp
  | some x =>
    have := h x (List.mem_of_getElem? hx)
    simpa using this
theorem ld_at {l : List Int} (hl : isBytes l) (a : Nat) : ∀ (n j : Nat), j < 64 → (ld l a n).getLsbD j = (decide (j < 8 * n) && (l.getD (a + j / 8) 0).toNat.testBit (j % 8))
  | 0, j, _ => by unfold ld; simp
  | n + 1, j, hj => by
    unfold ld
    rw [BitVec.getLsbD_or, ld_at hl a n j hj, BitVec.getLsbD_shiftLeft, BitVec.getLsbD_ofNat]
    have hb := isBytes_at hl (a + n)
    by_cases h1 : j < 8 * n
    · have h2 : j < 8 * (n + 1) := by omega
      simp [h1, h2]
    · by_cases h2 : j < 8 * (n + 1)
      · have e1 : j / 8 = n := by omega
        have e2 : j - 8 * n = j % 8 := by omega
        have e3 : j % 8 < 64 := by omega
        simp [h1, h2, hj, e1, e2, e3]
      · have e4 : (l.getD (a + n) 0).toNat.testBit (j - 8 * n) = false := by
          apply Nat.testBit_lt_two_pow
          have : (2:Nat) ^ 8 ≤ 2 ^ (j - 8 * n) := Nat.pow_le_pow_right (by decide) (by omega)
          omega
        rw [e4]
        simp [h1, h2]
theorem st_bytes {l : List Int} (hl : isBytes l) (a : Nat) (v : BitVec 64) : ∀ i, isBytes (st l a v i)
  | 0 => hl
  | i + 1 => fun x hx => by
    unfold st at hx
    rcases List.mem_or_eq_of_mem_set hx with h | h
    · exact st_bytes hl a v i x h
    · subst h; exact byteOf_range v i
end Go.Proofs.YtcgkgaibomcheaaGreat.Bits
end
