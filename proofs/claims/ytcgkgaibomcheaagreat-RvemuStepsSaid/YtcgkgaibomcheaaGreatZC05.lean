/- Joined out of this claim's texts: PRvemuRunsx3. Conditions: those of each theorem. -/
import Derived.Test.YtcgkgaibomcheaaGreatZC01
import Derived.Test.YtcgkgaibomcheaaGreatZC03
set_option linter.unusedVariables false
set_option linter.unusedSimpArgs false
section
namespace Go.Proofs.YtcgkgaibomcheaaGreat.PRvemuRuns
open Go.RowKit YtcgkgaibomcheaaGreatW.PrintWords YtcgkgaibomcheaaGreatW.PrintLast YtcgkgaibomcheaaGreatW.PrintMore
attribute [local go_sem] max2_int min2_int max_two min_two max_three min_three max_four min_four
def ravelinref15_imm.j0 : Nat → Int → Int → Bool → Option (Bool)
  | 0, _, _, _ => none
  | k + 1, x1, x5, x14 => if x14 = true then (if x1 ≥ (-2048) then (some (decide (x1 < 2048))) else (some false)) else (if x5 = 3 then (if x1 ≥ 0 then (some (decide (x1 < 64))) else (some false)) else (if x5 = 4 then (if x1 ≥ 0 then (some (decide (x1 < 32))) else (some false)) else (if x5 = 7 then (if x1 ≥ (-4096) then (if x1 < 4096 then (some ((Int.tmod x1 2) == 0)) else (some false)) else (some false)) else (if x5 = 8 then (if x1 ≥ (-1048576) then (if x1 < 1048576 then (some ((Int.tmod x1 2) == 0)) else (some false)) else (some false)) else (some (x1 == 0))))))
def ravelinref15_imm.f (k : Nat) (a0 : Int) (a1 : Int) : Option (Bool) := if a0 = 1 then (if a1 ≥ 0 then (some (decide (a1 < 1048576))) else (some false)) else (if a0 = 2 then (ravelinref15_imm.j0 k a1 a0 (a0 == 2)) else (ravelinref15_imm.j0 k a1 a0 (a0 == 5)))
set_option maxHeartbeats 8000000 in
set_option maxRecDepth 100000 in
theorem ravelinref15_imm.calls (k : Nat) (a0 : Int) (a1 : Int) (r : Bool) (w : World) (h : ravelinref15_imm.f k a0 a1 = some r) :
    Calls Tryz.prog 31 #[.int .i64 a0, .int .i64 a1] w fun e w' => e = .returned (.bool r) ∧ Drawn0 w w' := by
  have H : (if a0 = 1 then (if a1 ≥ 0 then (some (decide (a1 < 1048576))) else (some false)) else (if a0 = 2 then (ravelinref15_imm.j0 k a1 a0 (a0 == 2)) else (ravelinref15_imm.j0 k a1 a0 (a0 == 5)))) = some r := h
  clear h
  by_cases c3 : a0 = 1
  · rw [if_pos c3] at H
    have c3b0 : (a0 == 1) = true := beq_iff_eq.mpr c3
    have c3b1 : (a0 != 1) = false := bne_eq_false_iff_eq.mpr c3
    clear c3
    by_cases c4 : a1 ≥ 0
    · rw [if_pos c4] at H
      have c4b0 : decide (0 ≤ a1) = true := decide_eq_true c4
      clear c4
      obtain rfl := Option.some.inj H
      go_enter Tryz.func31, Tryz.ntmps31
      go_wp2
      go_ret
      exact ⟨by first | rfl | (simp; done) | (simp [*]; done), by repeat (first | exact Drawn0.refl _ | apply Drawn0.step)⟩
    · rw [if_neg c4] at H
      have c4b0 : decide (0 ≤ a1) = false := decide_eq_false c4
      clear c4
      obtain rfl := Option.some.inj H
      go_enter Tryz.func31, Tryz.ntmps31
      go_wp2
      go_ret
      exact ⟨by first | rfl | (simp; done) | (simp [*]; done), by repeat (first | exact Drawn0.refl _ | apply Drawn0.step)⟩
  · rw [if_neg c3] at H
    have c3b0 : (a0 == 1) = false := beq_eq_false_iff_ne.mpr c3
    have c3b1 : (a0 != 1) = true := bne_iff_ne.mpr c3
    have HC5 := Aside0.mk H
    clear H
    go_enter Tryz.func31, Tryz.ntmps31
    go_upto_if 14 with (fail)
    go_cut [14] (fun v14 wc => ∃ (kq : Nat) (x14_4 : Bool), v14 = .bool x14_4 ∧ Aside0 (ravelinref15_imm.j0 kq a1 a0 x14_4 = some r) ∧ Aside0 (kq ≤ k) ∧ Drawn0 w wc)
    case first =>
      have H := HC5.out
      clear HC5
      by_cases c6 : a0 = 2
      · rw [if_pos c6] at H
        have c6b0 : (a0 == 2) = true := beq_iff_eq.mpr c6
        have c6b1 : (a0 != 2) = false := bne_eq_false_iff_eq.mpr c6
        clear c6
        (first | rw [c6b0] | (simp only [i64_w, i32_w]; rw [c6b0]) | skip)
        have H' := Aside0.mk H
        clear H
        go_wp2
        go_meet
        case rel => exact ⟨_, ((a0 == 2)), (by first | rfl | (simp; done) | (simp [*]; done)), H', ⟨by first | omega | exact Nat.le_refl _⟩, by repeat (first | exact Drawn0.refl _ | apply Drawn0.step)⟩
      · rw [if_neg c6] at H
        have c6b0 : (a0 == 2) = false := beq_eq_false_iff_ne.mpr c6
        have c6b1 : (a0 != 2) = true := bne_iff_ne.mpr c6
        (first | rw [c6b0] | (simp only [i64_w, i32_w]; rw [c6b0]) | skip)
        have H' := Aside0.mk H
        clear H
        go_wp2
        go_meet
        case rel => exact ⟨_, ((a0 == 5)), (by first | rfl | (simp; done) | (simp [*]; done)), H', ⟨by first | omega | exact Nat.le_refl _⟩, by repeat (first | exact Drawn0.refl _ | apply Drawn0.step)⟩
    case rest =>
      clear HC5
      try clear p2
      try clear c3
      try clear c3b0
      try clear c3b1
      try clear c4
      try clear c4b0
      try clear c6
      try clear c6b0
      try clear c6b1
      obtain ⟨kq, x14_4, rfl, HA, HJ4, ⟨mc4, rfl⟩⟩ := hcut
      cases kq with
      | zero => exact absurd HA.out (by simp [ravelinref15_imm.j0])
      | succ kj4 =>
        have H := HA.out
        clear HA
        simp only [ravelinref15_imm.j0] at H
        by_cases c7 : x14_4 = true
        · subst c7
          have H1 : (if a1 ≥ (-2048) then (some (decide (a1 < 2048))) else (some false)) = some r := by rw [if_pos rfl] at H; exact H
          clear H
          have H := H1
          clear H1
          by_cases c8 : a1 ≥ (-2048)
          · rw [if_pos c8] at H
            have c8b0 : decide ((-2048) ≤ a1) = true := decide_eq_true c8
            clear c8
            obtain rfl := Option.some.inj H
            go_wp2
            go_ret
            exact ⟨by first | rfl | (simp; done) | (simp [*]; done), by repeat (first | exact Drawn0.refl _ | apply Drawn0.step)⟩
          · rw [if_neg c8] at H
            have c8b0 : decide ((-2048) ≤ a1) = false := decide_eq_false c8
            clear c8
            obtain rfl := Option.some.inj H
            go_wp2
            go_ret
            exact ⟨by first | rfl | (simp; done) | (simp [*]; done), by repeat (first | exact Drawn0.refl _ | apply Drawn0.step)⟩
        · replace c7 := Bool.eq_false_iff.mpr c7
          subst c7
          have H1 : (if a0 = 3 then (if a1 ≥ 0 then (some (decide (a1 < 64))) else (some false)) else (if a0 = 4 then (if a1 ≥ 0 then (some (decide (a1 < 32))) else (some false)) else (if a0 = 7 then (if a1 ≥ (-4096) then (if a1 < 4096 then (some ((Int.tmod a1 2) == 0)) else (some false)) else (some false)) else (if a0 = 8 then (if a1 ≥ (-1048576) then (if a1 < 1048576 then (some ((Int.tmod a1 2) == 0)) else (some false)) else (some false)) else (some (a1 == 0)))))) = some r := by rw [if_neg (show ¬ (false = true) by decide)] at H; exact H
          clear H
          have H := H1
          clear H1
          by_cases c9 : a0 = 3
          · rw [if_pos c9] at H
            have c9b0 : (a0 == 3) = true := beq_iff_eq.mpr c9
            have c9b1 : (a0 != 3) = false := bne_eq_false_iff_eq.mpr c9
            clear c9
            by_cases c10 : a1 ≥ 0
            · rw [if_pos c10] at H
              have c10b0 : decide (0 ≤ a1) = true := decide_eq_true c10
              clear c10
              obtain rfl := Option.some.inj H
              go_wp2
              go_ret
              exact ⟨by first | rfl | (simp; done) | (simp [*]; done), by repeat (first | exact Drawn0.refl _ | apply Drawn0.step)⟩
            · rw [if_neg c10] at H
              have c10b0 : decide (0 ≤ a1) = false := decide_eq_false c10
              clear c10
              obtain rfl := Option.some.inj H
              go_wp2
              go_ret
              exact ⟨by first | rfl | (simp; done) | (simp [*]; done), by repeat (first | exact Drawn0.refl _ | apply Drawn0.step)⟩
          · rw [if_neg c9] at H
            have c9b0 : (a0 == 3) = false := beq_eq_false_iff_ne.mpr c9
            have c9b1 : (a0 != 3) = true := bne_iff_ne.mpr c9
            by_cases c11 : a0 = 4
            · rw [if_pos c11] at H
              have c11b0 : (a0 == 4) = true := beq_iff_eq.mpr c11
              have c11b1 : (a0 != 4) = false := bne_eq_false_iff_eq.mpr c11
              clear c11
              by_cases c12 : a1 ≥ 0
              · rw [if_pos c12] at H
                have c12b0 : decide (0 ≤ a1) = true := decide_eq_true c12
                clear c12
                obtain rfl := Option.some.inj H
                go_wp2
                go_ret
                exact ⟨by first | rfl | (simp; done) | (simp [*]; done), by repeat (first | exact Drawn0.refl _ | apply Drawn0.step)⟩
              · rw [if_neg c12] at H
                have c12b0 : decide (0 ≤ a1) = false := decide_eq_false c12
                clear c12
                obtain rfl := Option.some.inj H
                go_wp2
                go_ret
                exact ⟨by first | rfl | (simp; done) | (simp [*]; done), by repeat (first | exact Drawn0.refl _ | apply Drawn0.step)⟩
            · rw [if_neg c11] at H
              have c11b0 : (a0 == 4) = false := beq_eq_false_iff_ne.mpr c11
              have c11b1 : (a0 != 4) = true := bne_iff_ne.mpr c11
              by_cases c13 : a0 = 7
              · rw [if_pos c13] at H
                have c13b0 : (a0 == 7) = true := beq_iff_eq.mpr c13
                have c13b1 : (a0 != 7) = false := bne_eq_false_iff_eq.mpr c13
                clear c13
                by_cases c14 : a1 ≥ (-4096)
                · rw [if_pos c14] at H
                  have c14b0 : decide ((-4096) ≤ a1) = true := decide_eq_true c14
                  clear c14
                  by_cases c15 : a1 < 4096
                  · rw [if_pos c15] at H
                    have c15b0 : decide (a1 < 4096) = true := decide_eq_true c15
                    clear c15
                    obtain rfl := Option.some.inj H
                    go_wp2
                    go_ret
                    exact ⟨by first | rfl | (simp; done) | (simp [*]; done), by repeat (first | exact Drawn0.refl _ | apply Drawn0.step)⟩
                  · rw [if_neg c15] at H
                    have c15b0 : decide (a1 < 4096) = false := decide_eq_false c15
                    clear c15
                    obtain rfl := Option.some.inj H
                    go_wp2
                    go_ret
                    exact ⟨by first | rfl | (simp; done) | (simp [*]; done), by repeat (first | exact Drawn0.refl _ | apply Drawn0.step)⟩
                · rw [if_neg c14] at H
                  have c14b0 : decide ((-4096) ≤ a1) = false := decide_eq_false c14
                  clear c14
                  obtain rfl := Option.some.inj H
                  go_wp2
                  go_ret
                  exact ⟨by first | rfl | (simp; done) | (simp [*]; done), by repeat (first | exact Drawn0.refl _ | apply Drawn0.step)⟩
              · rw [if_neg c13] at H
                have c13b0 : (a0 == 7) = false := beq_eq_false_iff_ne.mpr c13
                have c13b1 : (a0 != 7) = true := bne_iff_ne.mpr c13
                by_cases c16 : a0 = 8
                · rw [if_pos c16] at H
                  have c16b0 : (a0 == 8) = true := beq_iff_eq.mpr c16
                  have c16b1 : (a0 != 8) = false := bne_eq_false_iff_eq.mpr c16
                  clear c16
                  by_cases c17 : a1 ≥ (-1048576)
                  · rw [if_pos c17] at H
                    have c17b0 : decide ((-1048576) ≤ a1) = true := decide_eq_true c17
                    clear c17
                    by_cases c18 : a1 < 1048576
                    · rw [if_pos c18] at H
                      have c18b0 : decide (a1 < 1048576) = true := decide_eq_true c18
                      clear c18
                      obtain rfl := Option.some.inj H
                      go_wp2
                      go_ret
                      exact ⟨by first | rfl | (simp; done) | (simp [*]; done), by repeat (first | exact Drawn0.refl _ | apply Drawn0.step)⟩
                    · rw [if_neg c18] at H
                      have c18b0 : decide (a1 < 1048576) = false := decide_eq_false c18
                      clear c18
                      obtain rfl := Option.some.inj H
                      go_wp2
                      go_ret
                      exact ⟨by first | rfl | (simp; done) | (simp [*]; done), by repeat (first | exact Drawn0.refl _ | apply Drawn0.step)⟩
                  · rw [if_neg c17] at H
                    have c17b0 : decide ((-1048576) ≤ a1) = false := decide_eq_false c17
                    clear c17
                    obtain rfl := Option.some.inj H
                    go_wp2
                    go_ret
                    exact ⟨by first | rfl | (simp; done) | (simp [*]; done), by repeat (first | exact Drawn0.refl _ | apply Drawn0.step)⟩
                · rw [if_neg c16] at H
                  have c16b0 : (a0 == 8) = false := beq_eq_false_iff_ne.mpr c16
                  have c16b1 : (a0 != 8) = true := bne_iff_ne.mpr c16
                  obtain rfl := Option.some.inj H
                  go_wp2
                  go_ret
                  exact ⟨by first | rfl | (simp; done) | (simp [*]; done), by repeat (first | exact Drawn0.refl _ | apply Drawn0.step)⟩
def ravelinref01_bit.f (a0 : Int) (a1 : Int) : Option (Int) := if 0 ≤ (IntKind.u64.wrap (a1)) then (some (Go.bits .and .u64 (shr .u64 a0 (IntKind.u64.wrap (a1))) 1)) else (none)
set_option maxHeartbeats 8000000 in
set_option maxRecDepth 100000 in
theorem ravelinref01_bit.calls (a0 : Int) (a1 : Int) (r : Int) (w : World) (h : ravelinref01_bit.f a0 a1 = some r) :
    Calls Tryz.prog 109 #[.int .u64 a0, .int .i64 a1] w fun e w' => e = .returned (.int .u64 r) ∧ Drawn0 w w' := by
  have H : (if 0 ≤ (IntKind.u64.wrap (a1)) then (some (Go.bits .and .u64 (shr .u64 a0 (IntKind.u64.wrap (a1))) 1)) else (none)) = some r := h
  clear h
  obtain ⟨ji3, hji3⟩ : ∃ j_ : Int, (IntKind.u64.wrap (a1)) = j_ := ⟨_, rfl⟩
  replace H : (if 0 ≤ (ji3) then (some (Go.bits .and .u64 (shr .u64 a0 (ji3)) 1)) else (none)) = some r := by first | (rw [hji3] at H; exact H) | (simp only [hji3] at H ⊢; exact H)
  by_cases c4 : 0 ≤ (ji3)
  · rw [if_pos c4] at H
    have c4b0 := eq_true c4
    have c4b1 : decide (0 ≤ (ji3)) = true := decide_eq_true c4
    clear c4
    obtain ⟨ji5, hji5⟩ : ∃ j_ : Int, (shr .u64 a0 (ji3)) = j_ := ⟨_, rfl⟩
    replace H : (some (Go.bits .and .u64 (ji5) 1)) = some r := by first | (rw [hji5] at H; exact H) | (simp only [hji5] at H ⊢; exact H)
    have hji5_ : (a0 / 2 ^ min (ji3).toNat 64) = ji5 := hji5
    have hji5z : (ji3) ≤ 64 → (a0 / 2 ^ (ji3).toNat) = ji5 := shr_small hji5
    obtain rfl := Option.some.inj H
    go_enter Tryz.func109, Tryz.ntmps109
    go_wp2
    go_ret
    exact ⟨by first | rfl | (simp; done) | (simp only [← hji3, ← hji5] <;> (first | rfl | simp)) | (simp [*]; done), by repeat (first | exact Drawn0.refl _ | apply Drawn0.step)⟩
  · rw [if_neg c4] at H
    exact absurd H (by simp)
mutual
def ravelinref01_Bits.j0 : Nat → Int → Int → Int → Bool → Option (Int)
  | 0, _, _, _, _ => none
  | k + 1, x0, x1, x2, x18 => if x18 = true then (some 0) else (ravelinref01_Bits.l0 k x0 x1 x2 0 0)
def ravelinref01_Bits.l0 : Nat → Int → Int → Int → Int → Int → Option (Int)
  | 0, _, _, _, _, _ => none
  | k + 1, x0, x1, x2, x7, x8 => if x8 < x2 then (if (wrap64 (x1 + x8)) < 64 then ((ravelinref01_bit.f x0 (wrap64 (x1 + x8))).bind fun t119 => (if 0 ≤ (IntKind.u64.wrap (x8)) then (ravelinref01_Bits.l0 k x0 x1 x2 (Go.bits .or .u64 x7 (shl .u64 t119 (IntKind.u64.wrap (x8)))) (wrap64 (x8 + 1))) else (none))) else (some x7)) else (some x7)
end
def ravelinref01_Bits.f (k : Nat) (a0 : Int) (a1 : Int) (a2 : Int) : Option (Int) := if a1 < 0 then (ravelinref01_Bits.j0 k a0 a1 a2 true) else (if a1 > 63 then (ravelinref01_Bits.j0 k a0 a1 a2 true) else (ravelinref01_Bits.j0 k a0 a1 a2 (decide (a2 < 1))))
set_option maxHeartbeats 8000000 in
set_option maxRecDepth 100000 in
theorem ravelinref01_Bits.calls (k : Nat) (a0 : Int) (a1 : Int) (a2 : Int) (r : Int) (w : World) (h : ravelinref01_Bits.f k a0 a1 a2 = some r) :
    Calls Tryz.prog 94 #[.int .u64 a0, .int .i64 a1, .int .i64 a2] w fun e w' => e = .returned (.int .u64 r) ∧ Drawn0 w w' := by
  have H : (if a1 < 0 then (ravelinref01_Bits.j0 k a0 a1 a2 true) else (if a1 > 63 then (ravelinref01_Bits.j0 k a0 a1 a2 true) else (ravelinref01_Bits.j0 k a0 a1 a2 (decide (a2 < 1))))) = some r := h
  clear h
  have HC4 := Aside0.mk H
  clear H
  go_enter Tryz.func94, Tryz.ntmps94
  go_upto_region 1 with (fail)
  go_cut [18] (fun v18 wc => ∃ (kq : Nat) (x18_3 : Bool), v18 = .bool x18_3 ∧ Aside0 (ravelinref01_Bits.j0 kq a0 a1 a2 x18_3 = some r) ∧ Aside0 (kq ≤ k) ∧ Drawn0 w wc)
  case first =>
    have H := HC4.out
    clear HC4
    by_cases c5 : a1 < 0
    · rw [if_pos c5] at H
      have c5b0 : decide (a1 < 0) = true := decide_eq_true c5
      clear c5
      (first | rw [c5b0] | (simp only [i64_w, i32_w]; rw [c5b0]) | skip)
      have H' := Aside0.mk H
      clear H
      go_wp2
      go_meet
      case rel => exact ⟨_, (true), (by first | rfl | (simp; done) | (simp [*]; done)), H', ⟨by first | omega | exact Nat.le_refl _⟩, by repeat (first | exact Drawn0.refl _ | apply Drawn0.step)⟩
    · rw [if_neg c5] at H
      have c5b0 : decide (a1 < 0) = false := decide_eq_false c5
      clear c5
      (first | rw [c5b0] | (simp only [i64_w, i32_w]; rw [c5b0]) | skip)
      by_cases c6 : a1 > 63
      · rw [if_pos c6] at H
        have c6b0 : decide (63 < a1) = true := decide_eq_true c6
        clear c6
        have H' := Aside0.mk H
        clear H
        go_wp2
        go_meet
        case rel => exact ⟨_, (true), (by first | rfl | (simp; done) | (simp [*]; done)), H', ⟨by first | omega | exact Nat.le_refl _⟩, by repeat (first | exact Drawn0.refl _ | apply Drawn0.step)⟩
      · rw [if_neg c6] at H
        have c6b0 : decide (63 < a1) = false := decide_eq_false c6
        clear c6
        have H' := Aside0.mk H
        clear H
        go_wp2
        go_meet
        case rel => exact ⟨_, (decide (a2 < 1)), (by first | rfl | (simp; done) | (simp [*]; done)), H', ⟨by first | omega | exact Nat.le_refl _⟩, by repeat (first | exact Drawn0.refl _ | apply Drawn0.step)⟩
  case rest =>
    clear HC4
    try clear p2
    try clear c5
    try clear c5b0
    try clear c6
    try clear c6b0
    obtain ⟨kq, x18_3, rfl, HA, HJ3, ⟨mc3, rfl⟩⟩ := hcut
    cases kq with
    | zero => exact absurd HA.out (by simp [ravelinref01_Bits.j0])
    | succ kj3 =>
      have H := HA.out
      clear HA
      simp only [ravelinref01_Bits.j0] at H
      by_cases c7 : x18_3 = true
      · subst c7
        have H1 : (some 0) = some r := by rw [if_pos rfl] at H; exact H
        clear H
        have H := H1
        clear H1
        obtain rfl := Option.some.inj H
        go_wp2
        go_ret
        exact ⟨by first | rfl | (simp; done) | (simp [*]; done), by repeat (first | exact Drawn0.refl _ | apply Drawn0.step)⟩
      · replace c7 := Bool.eq_false_iff.mpr c7
        subst c7
        have H1 : (ravelinref01_Bits.l0 kj3 a0 a1 a2 0 0) = some r := by rw [if_neg (show ¬ (false = true) by decide)] at H; exact H
        clear H
        have H := H1
        clear H1
        have H' := Aside0.mk H
        clear H
        go_wp2
        go_loopg [7, 8] kj3 (fun kq v7 v8 w' => ∃ (x7_2 : Int) (x8_2 : Int), v7 = .int .u64 x7_2 ∧ v8 = .int .i64 x8_2 ∧ Aside0 (ravelinref01_Bits.l0 kq a0 a1 a2 x7_2 x8_2 = some r) ∧ Aside0 (kq ≤ kj3) ∧ Drawn0 w w')
        case atStart => exact ⟨(0), (0), (by first | rfl | (simp; done) | (simp [*]; done)), (by first | rfl | (simp; done) | (simp [*]; done)), H', ⟨Nat.le_refl _⟩, by repeat (first | exact Drawn0.refl _ | apply Drawn0.step)⟩
        case round =>
          clear H'
          try clear p2
          try clear c3
          try clear c5
          try clear c5b0
          try clear c6
          try clear c6b0
          try clear c7
          try clear p2
          obtain ⟨x7_2, x8_2, rfl, rfl, HA, HK2, ⟨m2, rfl⟩⟩ := hrel
          cases gk with
          | zero => exact absurd HA.out (by simp [ravelinref01_Bits.l0])
          | succ k2 =>
            have H := HA.out
            clear HA
            simp only [ravelinref01_Bits.l0] at H
            by_cases c8 : x8_2 < a2
            · rw [if_pos c8] at H
              have c8b0 : decide (x8_2 < a2) = true := decide_eq_true c8
              clear c8
              by_cases c9 : (wrap64 (a1 + x8_2)) < 64
              · rw [if_pos c9] at H
                have c9b0 : decide ((wrap64 (a1 + x8_2)) < 64) = true := decide_eq_true c9
                clear c9
                replace H := Option.bind_eq_some_iff.mp H
                obtain ⟨t119, A100, H⟩ := H
                replace H : (if 0 ≤ (IntKind.u64.wrap (x8_2)) then (ravelinref01_Bits.l0 k2 a0 a1 a2 (Go.bits .or .u64 x7_2 (shl .u64 t119 (IntKind.u64.wrap (x8_2)))) (wrap64 (x8_2 + 1))) else (none)) = some r := H
                have A10 := Aside0.mk A100
                clear A100
                obtain ⟨ji11, hji11⟩ : ∃ j_ : Int, (IntKind.u64.wrap (x8_2)) = j_ := ⟨_, rfl⟩
                replace H : (if 0 ≤ (ji11) then (ravelinref01_Bits.l0 k2 a0 a1 a2 (Go.bits .or .u64 x7_2 (shl .u64 t119 (ji11))) (wrap64 (x8_2 + 1))) else (none)) = some r := by first | (rw [hji11] at H; exact H) | (simp only [hji11] at H ⊢; exact H)
                (try rw [hji11] at A10)
                by_cases c12 : 0 ≤ (ji11)
                · rw [if_pos c12] at H
                  have c12b0 := eq_true c12
                  have c12b1 : decide (0 ≤ (ji11)) = true := decide_eq_true c12
                  clear c12
                  obtain ⟨ji13, hji13⟩ : ∃ j_ : Int, (shl .u64 t119 (ji11)) = j_ := ⟨_, rfl⟩
                  replace H : (ravelinref01_Bits.l0 k2 a0 a1 a2 (Go.bits .or .u64 x7_2 (ji13)) (wrap64 (x8_2 + 1))) = some r := by first | (rw [hji13] at H; exact H) | (simp only [hji13] at H ⊢; exact H)
                  (try rw [hji13] at A10)
                  have hji13_ : (IntKind.u64.wrap (t119 * 2 ^ min (ji11).toNat 64)) = ji13 := hji13
                  have hji13z : (ji11) ≤ 64 → (IntKind.u64.wrap (t119 * 2 ^ (ji11).toNat)) = ji13 := shl_small hji13
                  have H' := Aside0.mk H
                  clear H
                  go_wp2_with (first | ((with_reducible refine gate_callee (f := 109) rfl ?_); refine goesL_ (some 35) rfl rfl Tryz.func109 (by kernel_rfl) rfl #[.int .u64 a0, .int .i64 (wrap64 (a1 + x8_2))] rfl (by (try simp only [List.map_toArray, List.map_cons, List.map_nil]); first | done | rfl | (simp only [List.length_drop, List.length_take]; rfl)) ?_; (with_reducible refine (ravelinref01_bit.calls a0 (wrap64 (a1 + x8_2)) t119 _ A10.out).mono ?_); rintro e w' ⟨rfl, ⟨nd, rfl⟩⟩; refine ⟨_, rfl, ?_⟩))
                  go_roundg k2
                  case measure => have := HJ3.out; have := HK2.out; omega
                  case rel => exact ⟨(Go.bits .or .u64 x7_2 (ji13)), (wrap64 (x8_2 + 1)), (by first | rfl | (simp; done) | (simp only [← hji13] <;> (first | rfl | simp)) | (simp [*]; done)), (by first | rfl | (simp; done) | (simp [*]; done)), H', ⟨by have := HJ3.out; have := HK2.out; omega⟩, by repeat (first | exact Drawn0.refl _ | apply Drawn0.step)⟩
                · rw [if_neg c12] at H
                  exact absurd H (by simp)
              · rw [if_neg c9] at H
                have c9b0 : decide ((wrap64 (a1 + x8_2)) < 64) = false := decide_eq_false c9
                clear c9
                obtain rfl := Option.some.inj H
                go_wp2
                go_ret
                exact ⟨by first | rfl | (simp; done) | (simp [*]; done), by repeat (first | exact Drawn0.refl _ | apply Drawn0.step)⟩
            · rw [if_neg c8] at H
              have c8b0 : decide (x8_2 < a2) = false := decide_eq_false c8
              clear c8
              obtain rfl := Option.some.inj H
              go_wp2
              go_ret
              exact ⟨by first | rfl | (simp; done) | (simp [*]; done), by repeat (first | exact Drawn0.refl _ | apply Drawn0.step)⟩
def ravelinref15_at.f (k : Nat) (a0 : Int) (a1 : Int) (a2 : Int) (a3 : Int) : Option (Int) := (ravelinref01_Bits.f k (IntKind.u64.wrap (a0)) a1 a2).bind fun t120 => (if 0 ≤ (IntKind.u64.wrap (a3)) then (some (shl .u32 ((t120) % 4294967296) (IntKind.u64.wrap (a3)))) else (none))
set_option maxHeartbeats 8000000 in
set_option maxRecDepth 100000 in
theorem ravelinref15_at.calls (k : Nat) (a0 : Int) (a1 : Int) (a2 : Int) (a3 : Int) (r : Int) (w : World) (h : ravelinref15_at.f k a0 a1 a2 a3 = some r) :
    Calls Tryz.prog 48 #[.int .i64 a0, .int .i64 a1, .int .i64 a2, .int .i64 a3] w fun e w' => e = .returned (.int .u32 r) ∧ Drawn0 w w' := by
  have H : ((ravelinref01_Bits.f k (IntKind.u64.wrap (a0)) a1 a2).bind fun t120 => (if 0 ≤ (IntKind.u64.wrap (a3)) then (some (shl .u32 ((t120) % 4294967296) (IntKind.u64.wrap (a3)))) else (none))) = some r := h
  clear h
  replace H := Option.bind_eq_some_iff.mp H
  obtain ⟨t120, A50, H⟩ := H
  replace H : (if 0 ≤ (IntKind.u64.wrap (a3)) then (some (shl .u32 ((t120) % 4294967296) (IntKind.u64.wrap (a3)))) else (none)) = some r := H
  have A5 := Aside0.mk A50
  clear A50
  obtain ⟨ji6, hji6⟩ : ∃ j_ : Int, (IntKind.u64.wrap (a3)) = j_ := ⟨_, rfl⟩
  replace H : (if 0 ≤ (ji6) then (some (shl .u32 ((t120) % 4294967296) (ji6))) else (none)) = some r := by first | (rw [hji6] at H; exact H) | (simp only [hji6] at H ⊢; exact H)
  (try rw [hji6] at A5)
  by_cases c7 : 0 ≤ (ji6)
  · rw [if_pos c7] at H
    have c7b0 := eq_true c7
    have c7b1 : decide (0 ≤ (ji6)) = true := decide_eq_true c7
    clear c7
    obtain ⟨ji8, hji8⟩ : ∃ j_ : Int, (shl .u32 ((t120) % 4294967296) (ji6)) = j_ := ⟨_, rfl⟩
    replace H : (some ji8) = some r := by first | (rw [hji8] at H; exact H) | (simp only [hji8] at H ⊢; exact H)
    (try rw [hji8] at A5)
    have hji8_ : (IntKind.u32.wrap (((t120) % 4294967296) * 2 ^ min (ji6).toNat 32)) = ji8 := hji8
    have hji8z : (ji6) ≤ 32 → (IntKind.u32.wrap (((t120) % 4294967296) * 2 ^ (ji6).toNat)) = ji8 := shl_small hji8
    obtain rfl := Option.some.inj H
    go_enter Tryz.func48, Tryz.ntmps48
    go_wp2_with (first | ((with_reducible refine gate_callee (f := 94) rfl ?_); refine goesL_ (some 13) rfl rfl Tryz.func94 (by kernel_rfl) rfl #[.int .u64 (IntKind.u64.wrap (a0)), .int .i64 a1, .int .i64 a2] rfl (by (try simp only [List.map_toArray, List.map_cons, List.map_nil]); first | done | rfl | (simp only [List.length_drop, List.length_take]; rfl)) ?_; (with_reducible refine (ravelinref01_Bits.calls k (IntKind.u64.wrap (a0)) a1 a2 t120 _ A5.out).mono ?_); rintro e w' ⟨rfl, ⟨nd, rfl⟩⟩; refine ⟨_, rfl, ?_⟩))
    go_ret
    exact ⟨by first | rfl | (simp; done) | (simp only [← hji6, ← hji8] <;> (first | rfl | simp)) | (simp [*]; done), by repeat (first | exact Drawn0.refl _ | apply Drawn0.step)⟩
  · rw [if_neg c7] at H
    exact absurd H (by simp)
def ravelinref15_lay.j0 : Nat → Int → Int → Bool → Option (Int)
  | 0, _, _, _ => none
  | k + 1, x1, x5, x14 => if x14 = true then ((ravelinref15_at.f k x1 0 6 20).bind fun t123 => (some t123)) else (if x5 = 5 then ((ravelinref15_at.f k x1 0 5 7).bind fun t124 => ((ravelinref15_at.f k x1 5 7 25).bind fun t125 => (some (Go.bits .or .u32 t124 t125)))) else (if x5 = 7 then ((ravelinref15_at.f k x1 1 4 8).bind fun t126 => ((ravelinref15_at.f k x1 5 6 25).bind fun t127 => ((ravelinref15_at.f k x1 11 1 7).bind fun t128 => ((ravelinref15_at.f k x1 12 1 31).bind fun t129 => (some (Go.bits .or .u32 (Go.bits .or .u32 (Go.bits .or .u32 t126 t127) t128) t129)))))) else (if x5 = 8 then ((ravelinref15_at.f k x1 1 10 21).bind fun t130 => ((ravelinref15_at.f k x1 11 1 20).bind fun t131 => ((ravelinref15_at.f k x1 12 8 12).bind fun t132 => ((ravelinref15_at.f k x1 20 1 31).bind fun t133 => (some (Go.bits .or .u32 (Go.bits .or .u32 (Go.bits .or .u32 t130 t131) t132) t133)))))) else (some 0))))
def ravelinref15_lay.f (k : Nat) (a0 : Int) (a1 : Int) : Option (Int) := if a0 = 1 then ((ravelinref15_at.f k a1 0 20 12).bind fun t121 => (some t121)) else (if a0 = 2 then ((ravelinref15_at.f k a1 0 12 20).bind fun t122 => (some t122)) else (if a0 = 3 then (ravelinref15_lay.j0 k a1 a0 (a0 == 3)) else (ravelinref15_lay.j0 k a1 a0 (a0 == 4))))
set_option maxHeartbeats 8000000 in
set_option maxRecDepth 100000 in
theorem ravelinref15_lay.calls (k : Nat) (a0 : Int) (a1 : Int) (r : Int) (w : World) (h : ravelinref15_lay.f k a0 a1 = some r) :
    Calls Tryz.prog 32 #[.int .i64 a0, .int .i64 a1] w fun e w' => e = .returned (.int .u32 r) ∧ Drawn0 w w' := by
  have H : (if a0 = 1 then ((ravelinref15_at.f k a1 0 20 12).bind fun t121 => (some t121)) else (if a0 = 2 then ((ravelinref15_at.f k a1 0 12 20).bind fun t122 => (some t122)) else (if a0 = 3 then (ravelinref15_lay.j0 k a1 a0 (a0 == 3)) else (ravelinref15_lay.j0 k a1 a0 (a0 == 4))))) = some r := h
  clear h
  by_cases c3 : a0 = 1
  · rw [if_pos c3] at H
    have c3b0 : (a0 == 1) = true := beq_iff_eq.mpr c3
    have c3b1 : (a0 != 1) = false := bne_eq_false_iff_eq.mpr c3
    clear c3
    replace H := Option.bind_eq_some_iff.mp H
    obtain ⟨t121, A40, H⟩ := H
    replace H : (some t121) = some r := H
    have A4 := Aside0.mk A40
    clear A40
    obtain rfl := Option.some.inj H
    go_enter Tryz.func32, Tryz.ntmps32
    go_wp2_with (first | ((with_reducible refine gate_callee (f := 48) rfl ?_); refine goesL_ (some 9) rfl rfl Tryz.func48 (by kernel_rfl) rfl #[.int .i64 a1, .int .i64 0, .int .i64 20, .int .i64 12] rfl (by (try simp only [List.map_toArray, List.map_cons, List.map_nil]); first | done | rfl | (simp only [List.length_drop, List.length_take]; rfl)) ?_; (with_reducible refine (ravelinref15_at.calls k a1 0 20 12 t121 _ A4.out).mono ?_); rintro e w' ⟨rfl, ⟨nd, rfl⟩⟩; refine ⟨_, rfl, ?_⟩))
    go_ret
    exact ⟨by first | rfl | (simp; done) | (simp [*]; done), by repeat (first | exact Drawn0.refl _ | apply Drawn0.step)⟩
  · rw [if_neg c3] at H
    have c3b0 : (a0 == 1) = false := beq_eq_false_iff_ne.mpr c3
    have c3b1 : (a0 != 1) = true := bne_iff_ne.mpr c3
    by_cases c5 : a0 = 2
    · rw [if_pos c5] at H
      have c5b0 : (a0 == 2) = true := beq_iff_eq.mpr c5
      have c5b1 : (a0 != 2) = false := bne_eq_false_iff_eq.mpr c5
      clear c5
      replace H := Option.bind_eq_some_iff.mp H
      obtain ⟨t122, A60, H⟩ := H
      replace H : (some t122) = some r := H
      have A6 := Aside0.mk A60
      clear A60
      obtain rfl := Option.some.inj H
      go_enter Tryz.func32, Tryz.ntmps32
      go_wp2_with (first | ((with_reducible refine gate_callee (f := 48) rfl ?_); refine goesL_ (some 13) rfl rfl Tryz.func48 (by kernel_rfl) rfl #[.int .i64 a1, .int .i64 0, .int .i64 12, .int .i64 20] rfl (by (try simp only [List.map_toArray, List.map_cons, List.map_nil]); first | done | rfl | (simp only [List.length_drop, List.length_take]; rfl)) ?_; (with_reducible refine (ravelinref15_at.calls k a1 0 12 20 t122 _ A6.out).mono ?_); rintro e w' ⟨rfl, ⟨nd, rfl⟩⟩; refine ⟨_, rfl, ?_⟩))
      go_ret
      exact ⟨by first | rfl | (simp; done) | (simp [*]; done), by repeat (first | exact Drawn0.refl _ | apply Drawn0.step)⟩
    · rw [if_neg c5] at H
      have c5b0 : (a0 == 2) = false := beq_eq_false_iff_ne.mpr c5
      have c5b1 : (a0 != 2) = true := bne_iff_ne.mpr c5
      have HC7 := Aside0.mk H
      clear H
      go_enter Tryz.func32, Tryz.ntmps32
      go_upto_if 14 with (fail)
      go_cut [14] (fun v14 wc => ∃ (kq : Nat) (x14_6 : Bool), v14 = .bool x14_6 ∧ Aside0 (ravelinref15_lay.j0 kq a1 a0 x14_6 = some r) ∧ Aside0 (kq ≤ k) ∧ Drawn0 w wc)
      case first =>
        have H := HC7.out
        clear HC7
        by_cases c8 : a0 = 3
        · rw [if_pos c8] at H
          have c8b0 : (a0 == 3) = true := beq_iff_eq.mpr c8
          have c8b1 : (a0 != 3) = false := bne_eq_false_iff_eq.mpr c8
          clear c8
          (first | rw [c8b0] | (simp only [i64_w, i32_w]; rw [c8b0]) | skip)
          have H' := Aside0.mk H
          clear H
          go_wp2
          go_meet
          case rel => exact ⟨_, ((a0 == 3)), (by first | rfl | (simp; done) | (simp [*]; done)), H', ⟨by first | omega | exact Nat.le_refl _⟩, by repeat (first | exact Drawn0.refl _ | apply Drawn0.step)⟩
        · rw [if_neg c8] at H
          have c8b0 : (a0 == 3) = false := beq_eq_false_iff_ne.mpr c8
          have c8b1 : (a0 != 3) = true := bne_iff_ne.mpr c8
          (first | rw [c8b0] | (simp only [i64_w, i32_w]; rw [c8b0]) | skip)
          have H' := Aside0.mk H
          clear H
          go_wp2
          go_meet
          case rel => exact ⟨_, ((a0 == 4)), (by first | rfl | (simp; done) | (simp [*]; done)), H', ⟨by first | omega | exact Nat.le_refl _⟩, by repeat (first | exact Drawn0.refl _ | apply Drawn0.step)⟩
      case rest =>
        clear HC7
        try clear p2
        try clear c3
        try clear c3b0
        try clear c3b1
        try clear c4
        try clear c5
        try clear c5b0
        try clear c5b1
        try clear c8
        try clear c8b0
        try clear c8b1
        obtain ⟨kq, x14_6, rfl, HA, HJ6, ⟨mc6, rfl⟩⟩ := hcut
        cases kq with
        | zero => exact absurd HA.out (by simp [ravelinref15_lay.j0])
        | succ kj6 =>
          have H := HA.out
          clear HA
          simp only [ravelinref15_lay.j0] at H
          by_cases c9 : x14_6 = true
          · subst c9
            have H1 : ((ravelinref15_at.f kj6 a1 0 6 20).bind fun t123 => (some t123)) = some r := by rw [if_pos rfl] at H; exact H
            clear H
            have H := H1
            clear H1
            replace H := Option.bind_eq_some_iff.mp H
            obtain ⟨t123, A100, H⟩ := H
            replace H : (some t123) = some r := H
            have A10 := Aside0.mk A100
            clear A100
            obtain rfl := Option.some.inj H
            go_wp2_with (first | ((with_reducible refine gate_callee (f := 48) rfl ?_); refine goesL_ (some 18) rfl rfl Tryz.func48 (by kernel_rfl) rfl #[.int .i64 a1, .int .i64 0, .int .i64 6, .int .i64 20] rfl (by (try simp only [List.map_toArray, List.map_cons, List.map_nil]); first | done | rfl | (simp only [List.length_drop, List.length_take]; rfl)) ?_; (with_reducible refine (ravelinref15_at.calls kj6 a1 0 6 20 t123 _ A10.out).mono ?_); rintro e w' ⟨rfl, ⟨nd, rfl⟩⟩; refine ⟨_, rfl, ?_⟩))
            go_ret
            exact ⟨by first | rfl | (simp; done) | (simp [*]; done), by repeat (first | exact Drawn0.refl _ | apply Drawn0.step)⟩
          · replace c9 := Bool.eq_false_iff.mpr c9
            subst c9
            have H1 : (if a0 = 5 then ((ravelinref15_at.f kj6 a1 0 5 7).bind fun t124 => ((ravelinref15_at.f kj6 a1 5 7 25).bind fun t125 => (some (Go.bits .or .u32 t124 t125)))) else (if a0 = 7 then ((ravelinref15_at.f kj6 a1 1 4 8).bind fun t126 => ((ravelinref15_at.f kj6 a1 5 6 25).bind fun t127 => ((ravelinref15_at.f kj6 a1 11 1 7).bind fun t128 => ((ravelinref15_at.f kj6 a1 12 1 31).bind fun t129 => (some (Go.bits .or .u32 (Go.bits .or .u32 (Go.bits .or .u32 t126 t127) t128) t129)))))) else (if a0 = 8 then ((ravelinref15_at.f kj6 a1 1 10 21).bind fun t130 => ((ravelinref15_at.f kj6 a1 11 1 20).bind fun t131 => ((ravelinref15_at.f kj6 a1 12 8 12).bind fun t132 => ((ravelinref15_at.f kj6 a1 20 1 31).bind fun t133 => (some (Go.bits .or .u32 (Go.bits .or .u32 (Go.bits .or .u32 t130 t131) t132) t133)))))) else (some 0)))) = some r := by rw [if_neg (show ¬ (false = true) by decide)] at H; exact H
            clear H
            have H := H1
            clear H1
            by_cases c11 : a0 = 5
            · rw [if_pos c11] at H
              have c11b0 : (a0 == 5) = true := beq_iff_eq.mpr c11
              have c11b1 : (a0 != 5) = false := bne_eq_false_iff_eq.mpr c11
              clear c11
              replace H := Option.bind_eq_some_iff.mp H
              obtain ⟨t124, A120, H⟩ := H
              replace H : ((ravelinref15_at.f kj6 a1 5 7 25).bind fun t125 => (some (Go.bits .or .u32 t124 t125))) = some r := H
              have A12 := Aside0.mk A120
              clear A120
              replace H := Option.bind_eq_some_iff.mp H
              obtain ⟨t125, A130, H⟩ := H
              replace H : (some (Go.bits .or .u32 t124 t125)) = some r := H
              have A13 := Aside0.mk A130
              clear A130
              obtain rfl := Option.some.inj H
              go_wp2_with (first | ((with_reducible refine gate_callee (f := 48) rfl ?_); refine goesL_ (some 22) rfl rfl Tryz.func48 (by kernel_rfl) rfl #[.int .i64 a1, .int .i64 0, .int .i64 5, .int .i64 7] rfl (by (try simp only [List.map_toArray, List.map_cons, List.map_nil]); first | done | rfl | (simp only [List.length_drop, List.length_take]; rfl)) ?_; (with_reducible refine (ravelinref15_at.calls kj6 a1 0 5 7 t124 _ A12.out).mono ?_); rintro e w' ⟨rfl, ⟨nd, rfl⟩⟩; refine ⟨_, rfl, ?_⟩) | ((with_reducible refine gate_callee (f := 48) rfl ?_); refine goesL_ (some 24) rfl rfl Tryz.func48 (by kernel_rfl) rfl #[.int .i64 a1, .int .i64 5, .int .i64 7, .int .i64 25] rfl (by (try simp only [List.map_toArray, List.map_cons, List.map_nil]); first | done | rfl | (simp only [List.length_drop, List.length_take]; rfl)) ?_; (with_reducible refine (ravelinref15_at.calls kj6 a1 5 7 25 t125 _ A13.out).mono ?_); rintro e w' ⟨rfl, ⟨nd, rfl⟩⟩; refine ⟨_, rfl, ?_⟩))
              go_ret
              exact ⟨by first | rfl | (simp; done) | (simp [*]; done), by repeat (first | exact Drawn0.refl _ | apply Drawn0.step)⟩
            · rw [if_neg c11] at H
              have c11b0 : (a0 == 5) = false := beq_eq_false_iff_ne.mpr c11
              have c11b1 : (a0 != 5) = true := bne_iff_ne.mpr c11
              by_cases c14 : a0 = 7
              · rw [if_pos c14] at H
                have c14b0 : (a0 == 7) = true := beq_iff_eq.mpr c14
                have c14b1 : (a0 != 7) = false := bne_eq_false_iff_eq.mpr c14
                clear c14
                replace H := Option.bind_eq_some_iff.mp H
                obtain ⟨t126, A150, H⟩ := H
                replace H : ((ravelinref15_at.f kj6 a1 5 6 25).bind fun t127 => ((ravelinref15_at.f kj6 a1 11 1 7).bind fun t128 => ((ravelinref15_at.f kj6 a1 12 1 31).bind fun t129 => (some (Go.bits .or .u32 (Go.bits .or .u32 (Go.bits .or .u32 t126 t127) t128) t129))))) = some r := H
                have A15 := Aside0.mk A150
                clear A150
                replace H := Option.bind_eq_some_iff.mp H
                obtain ⟨t127, A160, H⟩ := H
                replace H : ((ravelinref15_at.f kj6 a1 11 1 7).bind fun t128 => ((ravelinref15_at.f kj6 a1 12 1 31).bind fun t129 => (some (Go.bits .or .u32 (Go.bits .or .u32 (Go.bits .or .u32 t126 t127) t128) t129)))) = some r := H
                have A16 := Aside0.mk A160
                clear A160
                replace H := Option.bind_eq_some_iff.mp H
                obtain ⟨t128, A170, H⟩ := H
                replace H : ((ravelinref15_at.f kj6 a1 12 1 31).bind fun t129 => (some (Go.bits .or .u32 (Go.bits .or .u32 (Go.bits .or .u32 t126 t127) t128) t129))) = some r := H
                have A17 := Aside0.mk A170
                clear A170
                replace H := Option.bind_eq_some_iff.mp H
                obtain ⟨t129, A180, H⟩ := H
                replace H : (some (Go.bits .or .u32 (Go.bits .or .u32 (Go.bits .or .u32 t126 t127) t128) t129)) = some r := H
                have A18 := Aside0.mk A180
                clear A180
                obtain rfl := Option.some.inj H
                go_wp2_with (first | ((with_reducible refine gate_callee (f := 48) rfl ?_); refine goesL_ (some 29) rfl rfl Tryz.func48 (by kernel_rfl) rfl #[.int .i64 a1, .int .i64 1, .int .i64 4, .int .i64 8] rfl (by (try simp only [List.map_toArray, List.map_cons, List.map_nil]); first | done | rfl | (simp only [List.length_drop, List.length_take]; rfl)) ?_; (with_reducible refine (ravelinref15_at.calls kj6 a1 1 4 8 t126 _ A15.out).mono ?_); rintro e w' ⟨rfl, ⟨nd, rfl⟩⟩; refine ⟨_, rfl, ?_⟩) | ((with_reducible refine gate_callee (f := 48) rfl ?_); refine goesL_ (some 31) rfl rfl Tryz.func48 (by kernel_rfl) rfl #[.int .i64 a1, .int .i64 5, .int .i64 6, .int .i64 25] rfl (by (try simp only [List.map_toArray, List.map_cons, List.map_nil]); first | done | rfl | (simp only [List.length_drop, List.length_take]; rfl)) ?_; (with_reducible refine (ravelinref15_at.calls kj6 a1 5 6 25 t127 _ A16.out).mono ?_); rintro e w' ⟨rfl, ⟨nd, rfl⟩⟩; refine ⟨_, rfl, ?_⟩) | ((with_reducible refine gate_callee (f := 48) rfl ?_); refine goesL_ (some 34) rfl rfl Tryz.func48 (by kernel_rfl) rfl #[.int .i64 a1, .int .i64 11, .int .i64 1, .int .i64 7] rfl (by (try simp only [List.map_toArray, List.map_cons, List.map_nil]); first | done | rfl | (simp only [List.length_drop, List.length_take]; rfl)) ?_; (with_reducible refine (ravelinref15_at.calls kj6 a1 11 1 7 t128 _ A17.out).mono ?_); rintro e w' ⟨rfl, ⟨nd, rfl⟩⟩; refine ⟨_, rfl, ?_⟩) | ((with_reducible refine gate_callee (f := 48) rfl ?_); refine goesL_ (some 37) rfl rfl Tryz.func48 (by kernel_rfl) rfl #[.int .i64 a1, .int .i64 12, .int .i64 1, .int .i64 31] rfl (by (try simp only [List.map_toArray, List.map_cons, List.map_nil]); first | done | rfl | (simp only [List.length_drop, List.length_take]; rfl)) ?_; (with_reducible refine (ravelinref15_at.calls kj6 a1 12 1 31 t129 _ A18.out).mono ?_); rintro e w' ⟨rfl, ⟨nd, rfl⟩⟩; refine ⟨_, rfl, ?_⟩))
                go_ret
                exact ⟨by first | rfl | (simp; done) | (simp [*]; done), by repeat (first | exact Drawn0.refl _ | apply Drawn0.step)⟩
              · rw [if_neg c14] at H
                have c14b0 : (a0 == 7) = false := beq_eq_false_iff_ne.mpr c14
                have c14b1 : (a0 != 7) = true := bne_iff_ne.mpr c14
                by_cases c19 : a0 = 8
                · rw [if_pos c19] at H
                  have c19b0 : (a0 == 8) = true := beq_iff_eq.mpr c19
                  have c19b1 : (a0 != 8) = false := bne_eq_false_iff_eq.mpr c19
                  clear c19
                  replace H := Option.bind_eq_some_iff.mp H
                  obtain ⟨t130, A200, H⟩ := H
                  replace H : ((ravelinref15_at.f kj6 a1 11 1 20).bind fun t131 => ((ravelinref15_at.f kj6 a1 12 8 12).bind fun t132 => ((ravelinref15_at.f kj6 a1 20 1 31).bind fun t133 => (some (Go.bits .or .u32 (Go.bits .or .u32 (Go.bits .or .u32 t130 t131) t132) t133))))) = some r := H
                  have A20 := Aside0.mk A200
                  clear A200
                  replace H := Option.bind_eq_some_iff.mp H
                  obtain ⟨t131, A210, H⟩ := H
                  replace H : ((ravelinref15_at.f kj6 a1 12 8 12).bind fun t132 => ((ravelinref15_at.f kj6 a1 20 1 31).bind fun t133 => (some (Go.bits .or .u32 (Go.bits .or .u32 (Go.bits .or .u32 t130 t131) t132) t133)))) = some r := H
                  have A21 := Aside0.mk A210
                  clear A210
                  replace H := Option.bind_eq_some_iff.mp H
                  obtain ⟨t132, A220, H⟩ := H
                  replace H : ((ravelinref15_at.f kj6 a1 20 1 31).bind fun t133 => (some (Go.bits .or .u32 (Go.bits .or .u32 (Go.bits .or .u32 t130 t131) t132) t133))) = some r := H
                  have A22 := Aside0.mk A220
                  clear A220
                  replace H := Option.bind_eq_some_iff.mp H
                  obtain ⟨t133, A230, H⟩ := H
                  replace H : (some (Go.bits .or .u32 (Go.bits .or .u32 (Go.bits .or .u32 t130 t131) t132) t133)) = some r := H
                  have A23 := Aside0.mk A230
                  clear A230
                  obtain rfl := Option.some.inj H
                  go_wp2_with (first | ((with_reducible refine gate_callee (f := 48) rfl ?_); refine goesL_ (some 42) rfl rfl Tryz.func48 (by kernel_rfl) rfl #[.int .i64 a1, .int .i64 1, .int .i64 10, .int .i64 21] rfl (by (try simp only [List.map_toArray, List.map_cons, List.map_nil]); first | done | rfl | (simp only [List.length_drop, List.length_take]; rfl)) ?_; (with_reducible refine (ravelinref15_at.calls kj6 a1 1 10 21 t130 _ A20.out).mono ?_); rintro e w' ⟨rfl, ⟨nd, rfl⟩⟩; refine ⟨_, rfl, ?_⟩) | ((with_reducible refine gate_callee (f := 48) rfl ?_); refine goesL_ (some 44) rfl rfl Tryz.func48 (by kernel_rfl) rfl #[.int .i64 a1, .int .i64 11, .int .i64 1, .int .i64 20] rfl (by (try simp only [List.map_toArray, List.map_cons, List.map_nil]); first | done | rfl | (simp only [List.length_drop, List.length_take]; rfl)) ?_; (with_reducible refine (ravelinref15_at.calls kj6 a1 11 1 20 t131 _ A21.out).mono ?_); rintro e w' ⟨rfl, ⟨nd, rfl⟩⟩; refine ⟨_, rfl, ?_⟩) | ((with_reducible refine gate_callee (f := 48) rfl ?_); refine goesL_ (some 47) rfl rfl Tryz.func48 (by kernel_rfl) rfl #[.int .i64 a1, .int .i64 12, .int .i64 8, .int .i64 12] rfl (by (try simp only [List.map_toArray, List.map_cons, List.map_nil]); first | done | rfl | (simp only [List.length_drop, List.length_take]; rfl)) ?_; (with_reducible refine (ravelinref15_at.calls kj6 a1 12 8 12 t132 _ A22.out).mono ?_); rintro e w' ⟨rfl, ⟨nd, rfl⟩⟩; refine ⟨_, rfl, ?_⟩) | ((with_reducible refine gate_callee (f := 48) rfl ?_); refine goesL_ (some 50) rfl rfl Tryz.func48 (by kernel_rfl) rfl #[.int .i64 a1, .int .i64 20, .int .i64 1, .int .i64 31] rfl (by (try simp only [List.map_toArray, List.map_cons, List.map_nil]); first | done | rfl | (simp only [List.length_drop, List.length_take]; rfl)) ?_; (with_reducible refine (ravelinref15_at.calls kj6 a1 20 1 31 t133 _ A23.out).mono ?_); rintro e w' ⟨rfl, ⟨nd, rfl⟩⟩; refine ⟨_, rfl, ?_⟩))
                  go_ret
                  exact ⟨by first | rfl | (simp; done) | (simp [*]; done), by repeat (first | exact Drawn0.refl _ | apply Drawn0.step)⟩
                · rw [if_neg c19] at H
                  have c19b0 : (a0 == 8) = false := beq_eq_false_iff_ne.mpr c19
                  have c19b1 : (a0 != 8) = true := bne_iff_ne.mpr c19
                  obtain rfl := Option.some.inj H
                  go_wp2
                  go_ret
                  exact ⟨by first | rfl | (simp; done) | (simp [*]; done), by repeat (first | exact Drawn0.refl _ | apply Drawn0.step)⟩
end Go.Proofs.YtcgkgaibomcheaaGreat.PRvemuRuns
end
