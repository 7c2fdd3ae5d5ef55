/- Joined out of this claim's texts: PRvemuRunsx9, PRvemuRunsx10, Bytes, F1. Conditions: those of each theorem. -/
import Derived.Test.YtcgkgaibomcheaaGreatZC01
import Derived.Test.YtcgkgaibomcheaaGreatZC03
import Derived.Test.YtcgkgaibomcheaaGreatZC06
import Derived.Test.YtcgkgaibomcheaaGreatZC04
set_option linter.unusedVariables false
set_option linter.unusedSimpArgs false
section
namespace Go.Proofs.YtcgkgaibomcheaaGreat.PRvemuRuns
open Go.RowKit YtcgkgaibomcheaaGreatW.PrintWords YtcgkgaibomcheaaGreatW.PrintLast YtcgkgaibomcheaaGreatW.PrintMore
attribute [local go_sem] max2_int min2_int max_two min_two max_three min_three max_four min_four
mutual
def ravelinref01_Load.j0 : Nat → List Int → Int → Int → Bool → Option (Int × Int)
  | 0, _, _, _, _ => none
  | k + 1, x0, x1, x2, x33 => if x33 = true then (some (0, 1)) else (ravelinref01_Load.l0 k x0 x1 0 (wrap64 (x2 - 1)))
def ravelinref01_Load.l0 : Nat → List Int → Int → Int → Int → Option (Int × Int)
  | 0, _, _, _, _ => none
  | k + 1, x0, x1, x8, x9 => if x9 ≥ 0 then (if 0 ≤ (wrap64 (x1 + x9)) then (if (wrap64 (x1 + x9)) < (x0.length : Int) then (ravelinref01_Load.l0 k x0 x1 (Go.bits .or .u64 (IntKind.u64.wrap (x8 * 256)) (IntKind.u64.wrap (rd x0 (wrap64 (x1 + x9))))) (wrap64 (x9 - 1))) else (none)) else (none)) else (some (x8, 0))
end
def ravelinref01_Load.f (k : Nat) (l0 : List Int) (a1 : Int) (a2 : Int) : Option (Int × Int) := if a2 < 1 then (ravelinref01_Load.j0 k l0 a1 a2 true) else (if a2 > 8 then (ravelinref01_Load.j0 k l0 a1 a2 true) else (if a1 < 0 then (ravelinref01_Load.j0 k l0 a1 a2 true) else (if a1 > (l0.length : Int) then (ravelinref01_Load.j0 k l0 a1 a2 true) else (ravelinref01_Load.j0 k l0 a1 a2 (decide (a2 > (wrap64 ((l0.length : Int) - a1))))))))
set_option maxHeartbeats 8000000 in
set_option maxRecDepth 100000 in
theorem ravelinref01_Load.calls (k : Nat) (A0 : Option Addr) (c0 : Nat) (l0 : List Int) (a1 : Int) (a2 : Int) (r1 : Int) (r2 : Int) (w : World) (hr0 : Kd.C (Kd.int .u8) w A0 l0.length l0) (hc0 : l0.length ≤ c0) (h : ravelinref01_Load.f k l0 a1 a2 = some (r1, r2)) :
    Calls Tryz.prog 88 #[.slice A0 l0.length c0, .int .i64 a1, .int .i64 a2] w fun e w' => e = .returned (.tuple #[.int .u64 r1, .int .i64 r2]) ∧ Drawn0 w w' := by
  have HR0 := Aside0.mk hr0
  have HC0 := Aside0.mk hc0
  clear hr0 hc0
  have H : (if a2 < 1 then (ravelinref01_Load.j0 k l0 a1 a2 true) else (if a2 > 8 then (ravelinref01_Load.j0 k l0 a1 a2 true) else (if a1 < 0 then (ravelinref01_Load.j0 k l0 a1 a2 true) else (if a1 > (l0.length : Int) then (ravelinref01_Load.j0 k l0 a1 a2 true) else (ravelinref01_Load.j0 k l0 a1 a2 (decide (a2 > (wrap64 ((l0.length : Int) - a1))))))))) = some (r1, r2) := h
  clear h
  have HC4 := Aside0.mk H
  clear H
  go_enter Tryz.func88, Tryz.ntmps88
  go_upto_region 1 with (fail)
  go_cut [33] (fun v33 wc => ∃ (kq : Nat) (x33_3 : Bool), v33 = .bool x33_3 ∧ Aside0 (ravelinref01_Load.j0 kq l0 a1 a2 x33_3 = some (r1, r2)) ∧ Aside0 (kq ≤ k) ∧ Drawn0 w wc)
  case first =>
    have H := HC4.out
    clear HC4
    by_cases c5 : a2 < 1
    · rw [if_pos c5] at H
      have c5b0 : decide (a2 < 1) = true := decide_eq_true c5
      clear c5
      (first | rw [c5b0] | (simp only [i64_w, i32_w]; rw [c5b0]) | skip)
      have H' := Aside0.mk H
      clear H
      go_wp2
      go_meet
      case rel => exact ⟨_, (true), (by first | rfl | (simp; done) | (simp [*]; done)), H', ⟨by first | omega | exact Nat.le_refl _⟩, by repeat (first | exact Drawn0.refl _ | apply Drawn0.step)⟩
    · rw [if_neg c5] at H
      have c5b0 : decide (a2 < 1) = false := decide_eq_false c5
      clear c5
      (first | rw [c5b0] | (simp only [i64_w, i32_w]; rw [c5b0]) | skip)
      by_cases c6 : a2 > 8
      · rw [if_pos c6] at H
        have c6b0 : decide (8 < a2) = true := decide_eq_true c6
        clear c6
        have H' := Aside0.mk H
        clear H
        go_wp2
        go_meet
        case rel => exact ⟨_, (true), (by first | rfl | (simp; done) | (simp [*]; done)), H', ⟨by first | omega | exact Nat.le_refl _⟩, by repeat (first | exact Drawn0.refl _ | apply Drawn0.step)⟩
      · rw [if_neg c6] at H
        have c6b0 : decide (8 < a2) = false := decide_eq_false c6
        clear c6
        by_cases c7 : a1 < 0
        · rw [if_pos c7] at H
          have c7b0 : decide (a1 < 0) = true := decide_eq_true c7
          clear c7
          have H' := Aside0.mk H
          clear H
          go_wp2
          go_meet
          case rel => exact ⟨_, (true), (by first | rfl | (simp; done) | (simp [*]; done)), H', ⟨by first | omega | exact Nat.le_refl _⟩, by repeat (first | exact Drawn0.refl _ | apply Drawn0.step)⟩
        · rw [if_neg c7] at H
          have c7b0 : decide (a1 < 0) = false := decide_eq_false c7
          clear c7
          by_cases c8 : a1 > (l0.length : Int)
          · rw [if_pos c8] at H
            have c8b0 : decide ((l0.length : Int) < a1) = true := decide_eq_true c8
            clear c8
            have H' := Aside0.mk H
            clear H
            go_wp2
            go_meet
            case rel => exact ⟨_, (true), (by first | rfl | (simp; done) | (simp [*]; done)), H', ⟨by first | omega | exact Nat.le_refl _⟩, by repeat (first | exact Drawn0.refl _ | apply Drawn0.step)⟩
          · rw [if_neg c8] at H
            have c8b0 : decide ((l0.length : Int) < a1) = false := decide_eq_false c8
            clear c8
            have H' := Aside0.mk H
            clear H
            go_wp2
            go_meet
            case rel => exact ⟨_, (decide (a2 > (wrap64 ((l0.length : Int) - a1)))), (by first | rfl | (simp; done) | (simp [*]; done)), H', ⟨by first | omega | exact Nat.le_refl _⟩, by repeat (first | exact Drawn0.refl _ | apply Drawn0.step)⟩
  case rest =>
    clear HC4
    try clear p2
    try clear c5
    try clear c5b0
    try clear c6
    try clear c6b0
    try clear p6
    try clear c7
    try clear c7b0
    try clear c8
    try clear c8b0
    obtain ⟨kq, x33_3, rfl, HA, HJ3, ⟨mc3, rfl⟩⟩ := hcut
    cases kq with
    | zero => exact absurd HA.out (by simp [ravelinref01_Load.j0])
    | succ kj3 =>
      have H := HA.out
      clear HA
      simp only [ravelinref01_Load.j0] at H
      by_cases c9 : x33_3 = true
      · subst c9
        have H1 : (some (0, 1)) = some (r1, r2) := by rw [if_pos rfl] at H; exact H
        clear H
        have H := H1
        clear H1
        simp only [Option.some.injEq, Prod.mk.injEq] at H
        obtain ⟨rfl, rfl⟩ := H
        go_wp2
        go_ret2
        exact ⟨by first | rfl | (simp; done) | (simp [*]; done), by repeat (first | exact Drawn0.refl _ | apply Drawn0.step)⟩
      · replace c9 := Bool.eq_false_iff.mpr c9
        subst c9
        have H1 : (ravelinref01_Load.l0 kj3 l0 a1 0 (wrap64 (a2 - 1))) = some (r1, r2) := by rw [if_neg (show ¬ (false = true) by decide)] at H; exact H
        clear H
        have H := H1
        clear H1
        have H' := Aside0.mk H
        clear H
        go_wp2
        go_loopg [8, 9] kj3 (fun kq v8 v9 w' => ∃ (x8_2 : Int) (x9_2 : Int), v8 = .int .u64 x8_2 ∧ v9 = .int .i64 x9_2 ∧ Aside0 (ravelinref01_Load.l0 kq l0 a1 x8_2 x9_2 = some (r1, r2)) ∧ Aside0 (kq ≤ kj3) ∧ Drawn0 w w')
        case atStart => exact ⟨(0), (wrap64 (a2 - 1)), (by first | rfl | (simp; done) | (simp [*]; done)), (by first | rfl | (simp; done) | (simp [*]; done)), H', ⟨Nat.le_refl _⟩, by repeat (first | exact Drawn0.refl _ | apply Drawn0.step)⟩
        case round =>
          clear H'
          try clear p2
          try clear c3
          try clear c5
          try clear c5b0
          try clear c6
          try clear c6b0
          try clear p6
          try clear c7
          try clear c7b0
          try clear c8
          try clear c8b0
          try clear c9
          try clear p2
          try clear p6
          obtain ⟨x8_2, x9_2, rfl, rfl, HA, HK2, ⟨m2, rfl⟩⟩ := hrel
          cases gk with
          | zero => exact absurd HA.out (by simp [ravelinref01_Load.l0])
          | succ k2 =>
            have H := HA.out
            clear HA
            simp only [ravelinref01_Load.l0] at H
            by_cases c10 : x9_2 ≥ 0
            · rw [if_pos c10] at H
              have c10b0 : decide (0 ≤ x9_2) = true := decide_eq_true c10
              clear c10
              obtain ⟨ji11, hji11⟩ : ∃ j_ : Int, (wrap64 (a1 + x9_2)) = j_ := ⟨_, rfl⟩
              replace H : (if 0 ≤ (ji11) then (if (ji11) < (l0.length : Int) then (ravelinref01_Load.l0 k2 l0 a1 (Go.bits .or .u64 (IntKind.u64.wrap (x8_2 * 256)) (IntKind.u64.wrap (rd l0 (ji11)))) (wrap64 (x9_2 - 1))) else (none)) else (none)) = some (r1, r2) := by first | (rw [hji11] at H; exact H) | (simp only [hji11] at H ⊢; exact H)
              have hji11w : (IntKind.i64.wrap (a1 + x9_2)) = ji11 := (i64_w _).trans hji11
              by_cases c12 : 0 ≤ (ji11)
              · rw [if_pos c12] at H
                have c12b0 : decide (0 ≤ (ji11)) = true := decide_eq_true c12
                clear c12
                by_cases c13 : (ji11) < (l0.length : Int)
                · rw [if_pos c13] at H
                  have c13b0 : decide ((ji11) < (l0.length : Int)) = true := decide_eq_true c13
                  clear c13
                  have H' := Aside0.mk H
                  clear H
                  have p291 : 0 ≤ ((ji11) : Int) := of_decide_eq_true (by first | (with_reducible assumption) | assumption)
                  have q291 : (ji11) < (l0.length : Int) := of_decide_eq_true (by first | (with_reducible assumption) | assumption)
                  obtain ⟨ad291, e291, hx291_0⟩ := Kd.at_int HR0.out (ji11) p291 q291
                  cases e291
                  replace p291 := eq_true p291
                  replace q291 := eq_true q291
                  go_wp2
                  go_roundg k2
                  case measure => have := HJ3.out; have := HK2.out; omega
                  case rel => exact ⟨(Go.bits .or .u64 (IntKind.u64.wrap (x8_2 * 256)) (IntKind.u64.wrap (rd l0 (ji11)))), (wrap64 (x9_2 - 1)), (by first | rfl | (simp; done) | (simp only [← hji11] <;> (first | rfl | simp)) | (simp [*]; done)), (by first | rfl | (simp; done) | (simp [*]; done)), H', ⟨by have := HJ3.out; have := HK2.out; omega⟩, by repeat (first | exact Drawn0.refl _ | apply Drawn0.step)⟩
                · rw [if_neg c13] at H
                  exact absurd H (by simp)
              · rw [if_neg c12] at H
                exact absurd H (by simp)
            · rw [if_neg c10] at H
              have c10b0 : decide (0 ≤ x9_2) = false := decide_eq_false c10
              clear c10
              simp only [Option.some.injEq, Prod.mk.injEq] at H
              obtain ⟨rfl, rfl⟩ := H
              go_wp2
              go_ret2
              exact ⟨by first | rfl | (simp; done) | (simp [*]; done), by repeat (first | exact Drawn0.refl _ | apply Drawn0.step)⟩
def ravelinref15_Word.f (k : Nat) (l0 : List Int) (a1 : Int) : Option (Int) := (ravelinref01_Load.f k l0 a1 4).bind fun bt292 => (some ((bt292.1) % 4294967296))
set_option maxHeartbeats 8000000 in
set_option maxRecDepth 100000 in
theorem ravelinref15_Word.calls (k : Nat) (A0 : Option Addr) (c0 : Nat) (l0 : List Int) (a1 : Int) (r : Int) (w : World) (hr0 : Kd.C (Kd.int .u8) w A0 l0.length l0) (hc0 : l0.length ≤ c0) (h : ravelinref15_Word.f k l0 a1 = some r) :
    Calls Tryz.prog 44 #[.slice A0 l0.length c0, .int .i64 a1] w fun e w' => e = .returned (.int .u32 r) ∧ Drawn0 w w' := by
  have HR0 := Aside0.mk hr0
  have HC0 := Aside0.mk hc0
  clear hr0 hc0
  have H : ((ravelinref01_Load.f k l0 a1 4).bind fun bt292 => (some ((bt292.1) % 4294967296))) = some r := h
  clear h
  replace H := Option.bind_eq_some_iff.mp H
  obtain ⟨⟨t292, t293⟩, A30, H⟩ := H
  replace H : (some ((t292) % 4294967296)) = some r := H
  have A3 := Aside0.mk A30
  clear A30
  obtain rfl := Option.some.inj H
  go_enter Tryz.func44, Tryz.ntmps44
  go_wp2_with (first | ((with_reducible refine gate_callee (f := 88) rfl ?_); refine goesL_ (some 10) rfl rfl Tryz.func88 (by kernel_rfl) rfl #[.slice A0 l0.length c0, .int .i64 a1, .int .i64 4] rfl (by (try simp only [List.map_toArray, List.map_cons, List.map_nil]); first | done | rfl | (simp only [List.length_drop, List.length_take]; rfl)) ?_; (with_reducible refine (ravelinref01_Load.calls k _ _ l0 a1 4 t292 t293 _ ?side1 ?side2 A3.out).mono ?_); (case side1 => repeat (first | exact HR0.out | (with_reducible refine Kd.C_alloc ?_ _) | (with_reducible refine Kd.C_drewN ?_ _) | (with_reducible refine Kd.C_drew ?_))); (case side2 => exact HC0.out); rintro e w' ⟨rfl, ⟨nd, rfl⟩⟩; refine ⟨_, rfl, ?_⟩))
  go_ret
  exact ⟨by first | rfl | (simp; done) | (simp [*]; done), by repeat (first | exact Drawn0.refl _ | apply Drawn0.step)⟩
def ravelinref16_short.f (k : Nat) (a0 : Int) : Option (Int) := (ravelinref01_Sext.f k a0 32).bind fun t294 => (some (IntKind.u64.wrap (t294)))
set_option maxHeartbeats 8000000 in
set_option maxRecDepth 100000 in
theorem ravelinref16_short.calls (k : Nat) (a0 : Int) (r : Int) (w : World) (h : ravelinref16_short.f k a0 = some r) :
    Calls Tryz.prog 106 #[.int .u64 a0] w fun e w' => e = .returned (.int .u64 r) ∧ Drawn0 w w' := by
  have H : ((ravelinref01_Sext.f k a0 32).bind fun t294 => (some (IntKind.u64.wrap (t294)))) = some r := h
  clear h
  replace H := Option.bind_eq_some_iff.mp H
  obtain ⟨t294, A20, H⟩ := H
  replace H : (some (IntKind.u64.wrap (t294))) = some r := H
  have A2 := Aside0.mk A20
  clear A20
  obtain rfl := Option.some.inj H
  go_enter Tryz.func106, Tryz.ntmps106
  go_wp2_with (first | ((with_reducible refine gate_callee (f := 113) rfl ?_); refine goesL_ (some 4) rfl rfl Tryz.func113 (by kernel_rfl) rfl #[.int .u64 a0, .int .i64 32] rfl (by (try simp only [List.map_toArray, List.map_cons, List.map_nil]); first | done | rfl | (simp only [List.length_drop, List.length_take]; rfl)) ?_; (with_reducible refine (ravelinref01_Sext.calls k a0 32 t294 _ A2.out).mono ?_); rintro e w' ⟨rfl, ⟨nd, rfl⟩⟩; refine ⟨_, rfl, ?_⟩))
  go_ret
  exact ⟨by first | rfl | (simp; done) | (simp [*]; done), by repeat (first | exact Drawn0.refl _ | apply Drawn0.step)⟩
def ravelinref16_two.f (k : Nat) (a0 : Int) (a1 : Int) (a2 : Int) : Option (Int × Int) := if a0 = 16 then (some (IntKind.u64.wrap (a1 + a2), 0)) else (if a0 = 17 then (some (IntKind.u64.wrap (a1 - a2), 0)) else (if a0 = 20 then (some (Go.bits .xor .u64 a1 a2, 0)) else (if a0 = 19 then (some (Go.bits .or .u64 a1 a2, 0)) else (if a0 = 18 then (some (Go.bits .and .u64 a1 a2, 0)) else (if a0 = 21 then (if 0 ≤ (Go.bits .and .u64 a2 63) then (some (shl .u64 a1 (Go.bits .and .u64 a2 63), 0)) else (none)) else (if a0 = 22 then (if 0 ≤ (Go.bits .and .u64 a2 63) then (some (shr .u64 a1 (Go.bits .and .u64 a2 63), 0)) else (none)) else (if a0 = 23 then ((ravelinref16_short.f k (IntKind.u64.wrap (a1 + a2))).bind fun t295 => (some (t295, 0))) else (if a0 = 24 then ((ravelinref16_short.f k (IntKind.u64.wrap (a1 - a2))).bind fun t296 => (some (t296, 0))) else (if a0 = 25 then ((ravelinref16_short.f k (IntKind.u64.wrap (a1 * a2))).bind fun t297 => (some (t297, 0))) else (if a0 = 27 then (if 0 ≤ (Go.bits .and .u64 a2 31) then ((ravelinref16_short.f k (shl .u64 a1 (Go.bits .and .u64 a2 31))).bind fun t298 => (some (t298, 0))) else (none)) else (if a0 = 28 then (if 0 ≤ (Go.bits .and .u64 a2 31) then ((ravelinref16_short.f k (shr .u64 (Go.bits .and .u64 a1 4294967295) (Go.bits .and .u64 a2 31))).bind fun t299 => (some (t299, 0))) else (none)) else (if ((a2) % 4294967296) = 0 then (some (0, 8)) else ((ravelinref16_short.f k ((((a1) % 4294967296) / ((a2) % 4294967296)) % 4294967296)).bind fun t300 => (some (t300, 0)))))))))))))))
set_option maxHeartbeats 8000000 in
set_option maxRecDepth 100000 in
theorem ravelinref16_two.calls (k : Nat) (a0 : Int) (a1 : Int) (a2 : Int) (r1 : Int) (r2 : Int) (w : World) (h : ravelinref16_two.f k a0 a1 a2 = some (r1, r2)) :
    Calls Tryz.prog 89 #[.int .i64 a0, .int .u64 a1, .int .u64 a2] w fun e w' => e = .returned (.tuple #[.int .u64 r1, .int .i64 r2]) ∧ Drawn0 w w' := by
  have H : (if a0 = 16 then (some (IntKind.u64.wrap (a1 + a2), 0)) else (if a0 = 17 then (some (IntKind.u64.wrap (a1 - a2), 0)) else (if a0 = 20 then (some (Go.bits .xor .u64 a1 a2, 0)) else (if a0 = 19 then (some (Go.bits .or .u64 a1 a2, 0)) else (if a0 = 18 then (some (Go.bits .and .u64 a1 a2, 0)) else (if a0 = 21 then (if 0 ≤ (Go.bits .and .u64 a2 63) then (some (shl .u64 a1 (Go.bits .and .u64 a2 63), 0)) else (none)) else (if a0 = 22 then (if 0 ≤ (Go.bits .and .u64 a2 63) then (some (shr .u64 a1 (Go.bits .and .u64 a2 63), 0)) else (none)) else (if a0 = 23 then ((ravelinref16_short.f k (IntKind.u64.wrap (a1 + a2))).bind fun t295 => (some (t295, 0))) else (if a0 = 24 then ((ravelinref16_short.f k (IntKind.u64.wrap (a1 - a2))).bind fun t296 => (some (t296, 0))) else (if a0 = 25 then ((ravelinref16_short.f k (IntKind.u64.wrap (a1 * a2))).bind fun t297 => (some (t297, 0))) else (if a0 = 27 then (if 0 ≤ (Go.bits .and .u64 a2 31) then ((ravelinref16_short.f k (shl .u64 a1 (Go.bits .and .u64 a2 31))).bind fun t298 => (some (t298, 0))) else (none)) else (if a0 = 28 then (if 0 ≤ (Go.bits .and .u64 a2 31) then ((ravelinref16_short.f k (shr .u64 (Go.bits .and .u64 a1 4294967295) (Go.bits .and .u64 a2 31))).bind fun t299 => (some (t299, 0))) else (none)) else (if ((a2) % 4294967296) = 0 then (some (0, 8)) else ((ravelinref16_short.f k ((((a1) % 4294967296) / ((a2) % 4294967296)) % 4294967296)).bind fun t300 => (some (t300, 0)))))))))))))))) = some (r1, r2) := h
  clear h
  by_cases c4 : a0 = 16
  · rw [if_pos c4] at H
    have c4b0 : (a0 == 16) = true := beq_iff_eq.mpr c4
    have c4b1 : (a0 != 16) = false := bne_eq_false_iff_eq.mpr c4
    clear c4
    simp only [Option.some.injEq, Prod.mk.injEq] at H
    obtain ⟨rfl, rfl⟩ := H
    go_enter Tryz.func89, Tryz.ntmps89
    go_wp2
    go_ret2
    exact ⟨by first | rfl | (simp; done) | (simp [*]; done), by repeat (first | exact Drawn0.refl _ | apply Drawn0.step)⟩
  · rw [if_neg c4] at H
    have c4b0 : (a0 == 16) = false := beq_eq_false_iff_ne.mpr c4
    have c4b1 : (a0 != 16) = true := bne_iff_ne.mpr c4
    by_cases c5 : a0 = 17
    · rw [if_pos c5] at H
      have c5b0 : (a0 == 17) = true := beq_iff_eq.mpr c5
      have c5b1 : (a0 != 17) = false := bne_eq_false_iff_eq.mpr c5
      clear c5
      simp only [Option.some.injEq, Prod.mk.injEq] at H
      obtain ⟨rfl, rfl⟩ := H
      go_enter Tryz.func89, Tryz.ntmps89
      go_wp2
      go_ret2
      exact ⟨by first | rfl | (simp; done) | (simp [*]; done), by repeat (first | exact Drawn0.refl _ | apply Drawn0.step)⟩
    · rw [if_neg c5] at H
      have c5b0 : (a0 == 17) = false := beq_eq_false_iff_ne.mpr c5
      have c5b1 : (a0 != 17) = true := bne_iff_ne.mpr c5
      by_cases c6 : a0 = 20
      · rw [if_pos c6] at H
        have c6b0 : (a0 == 20) = true := beq_iff_eq.mpr c6
        have c6b1 : (a0 != 20) = false := bne_eq_false_iff_eq.mpr c6
        clear c6
        simp only [Option.some.injEq, Prod.mk.injEq] at H
        obtain ⟨rfl, rfl⟩ := H
        go_enter Tryz.func89, Tryz.ntmps89
        go_wp2
        go_ret2
        exact ⟨by first | rfl | (simp; done) | (simp [*]; done), by repeat (first | exact Drawn0.refl _ | apply Drawn0.step)⟩
      · rw [if_neg c6] at H
        have c6b0 : (a0 == 20) = false := beq_eq_false_iff_ne.mpr c6
        have c6b1 : (a0 != 20) = true := bne_iff_ne.mpr c6
        by_cases c7 : a0 = 19
        · rw [if_pos c7] at H
          have c7b0 : (a0 == 19) = true := beq_iff_eq.mpr c7
          have c7b1 : (a0 != 19) = false := bne_eq_false_iff_eq.mpr c7
          clear c7
          simp only [Option.some.injEq, Prod.mk.injEq] at H
          obtain ⟨rfl, rfl⟩ := H
          go_enter Tryz.func89, Tryz.ntmps89
          go_wp2
          go_ret2
          exact ⟨by first | rfl | (simp; done) | (simp [*]; done), by repeat (first | exact Drawn0.refl _ | apply Drawn0.step)⟩
        · rw [if_neg c7] at H
          have c7b0 : (a0 == 19) = false := beq_eq_false_iff_ne.mpr c7
          have c7b1 : (a0 != 19) = true := bne_iff_ne.mpr c7
          by_cases c8 : a0 = 18
          · rw [if_pos c8] at H
            have c8b0 : (a0 == 18) = true := beq_iff_eq.mpr c8
            have c8b1 : (a0 != 18) = false := bne_eq_false_iff_eq.mpr c8
            clear c8
            simp only [Option.some.injEq, Prod.mk.injEq] at H
            obtain ⟨rfl, rfl⟩ := H
            go_enter Tryz.func89, Tryz.ntmps89
            go_wp2
            go_ret2
            exact ⟨by first | rfl | (simp; done) | (simp [*]; done), by repeat (first | exact Drawn0.refl _ | apply Drawn0.step)⟩
          · rw [if_neg c8] at H
            have c8b0 : (a0 == 18) = false := beq_eq_false_iff_ne.mpr c8
            have c8b1 : (a0 != 18) = true := bne_iff_ne.mpr c8
            by_cases c9 : a0 = 21
            · rw [if_pos c9] at H
              have c9b0 : (a0 == 21) = true := beq_iff_eq.mpr c9
              have c9b1 : (a0 != 21) = false := bne_eq_false_iff_eq.mpr c9
              clear c9
              by_cases c10 : 0 ≤ (Go.bits .and .u64 a2 63)
              · rw [if_pos c10] at H
                have c10b0 := eq_true c10
                have c10b1 : decide (0 ≤ (Go.bits .and .u64 a2 63)) = true := decide_eq_true c10
                clear c10
                obtain ⟨ji11, hji11⟩ : ∃ j_ : Int, (shl .u64 a1 (Go.bits .and .u64 a2 63)) = j_ := ⟨_, rfl⟩
                replace H : (some (ji11, 0)) = some (r1, r2) := by first | (rw [hji11] at H; exact H) | (simp only [hji11] at H ⊢; exact H)
                have hji11_ : (IntKind.u64.wrap (a1 * 2 ^ min (Go.bits .and .u64 a2 63).toNat 64)) = ji11 := hji11
                have hji11z : (Go.bits .and .u64 a2 63) ≤ 64 → (IntKind.u64.wrap (a1 * 2 ^ (Go.bits .and .u64 a2 63).toNat)) = ji11 := shl_small hji11
                simp only [Option.some.injEq, Prod.mk.injEq] at H
                obtain ⟨rfl, rfl⟩ := H
                go_enter Tryz.func89, Tryz.ntmps89
                go_wp2
                go_ret2
                exact ⟨by first | rfl | (simp; done) | (simp only [← hji11] <;> (first | rfl | simp)) | (simp [*]; done), by repeat (first | exact Drawn0.refl _ | apply Drawn0.step)⟩
              · rw [if_neg c10] at H
                exact absurd H (by simp)
            · rw [if_neg c9] at H
              have c9b0 : (a0 == 21) = false := beq_eq_false_iff_ne.mpr c9
              have c9b1 : (a0 != 21) = true := bne_iff_ne.mpr c9
              by_cases c12 : a0 = 22
              · rw [if_pos c12] at H
                have c12b0 : (a0 == 22) = true := beq_iff_eq.mpr c12
                have c12b1 : (a0 != 22) = false := bne_eq_false_iff_eq.mpr c12
                clear c12
                by_cases c13 : 0 ≤ (Go.bits .and .u64 a2 63)
                · rw [if_pos c13] at H
                  have c13b0 := eq_true c13
                  have c13b1 : decide (0 ≤ (Go.bits .and .u64 a2 63)) = true := decide_eq_true c13
                  clear c13
                  obtain ⟨ji14, hji14⟩ : ∃ j_ : Int, (shr .u64 a1 (Go.bits .and .u64 a2 63)) = j_ := ⟨_, rfl⟩
                  replace H : (some (ji14, 0)) = some (r1, r2) := by first | (rw [hji14] at H; exact H) | (simp only [hji14] at H ⊢; exact H)
                  have hji14_ : (a1 / 2 ^ min (Go.bits .and .u64 a2 63).toNat 64) = ji14 := hji14
                  have hji14z : (Go.bits .and .u64 a2 63) ≤ 64 → (a1 / 2 ^ (Go.bits .and .u64 a2 63).toNat) = ji14 := shr_small hji14
                  simp only [Option.some.injEq, Prod.mk.injEq] at H
                  obtain ⟨rfl, rfl⟩ := H
                  go_enter Tryz.func89, Tryz.ntmps89
                  go_wp2
                  go_ret2
                  exact ⟨by first | rfl | (simp; done) | (simp only [← hji14] <;> (first | rfl | simp)) | (simp [*]; done), by repeat (first | exact Drawn0.refl _ | apply Drawn0.step)⟩
                · rw [if_neg c13] at H
                  exact absurd H (by simp)
              · rw [if_neg c12] at H
                have c12b0 : (a0 == 22) = false := beq_eq_false_iff_ne.mpr c12
                have c12b1 : (a0 != 22) = true := bne_iff_ne.mpr c12
                by_cases c15 : a0 = 23
                · rw [if_pos c15] at H
                  have c15b0 : (a0 == 23) = true := beq_iff_eq.mpr c15
                  have c15b1 : (a0 != 23) = false := bne_eq_false_iff_eq.mpr c15
                  clear c15
                  replace H := Option.bind_eq_some_iff.mp H
                  obtain ⟨t295, A160, H⟩ := H
                  replace H : (some (t295, 0)) = some (r1, r2) := H
                  have A16 := Aside0.mk A160
                  clear A160
                  simp only [Option.some.injEq, Prod.mk.injEq] at H
                  obtain ⟨rfl, rfl⟩ := H
                  go_enter Tryz.func89, Tryz.ntmps89
                  go_wp2_with (first | ((with_reducible refine gate_callee (f := 106) rfl ?_); refine goesL_ (some 51) rfl rfl Tryz.func106 (by kernel_rfl) rfl #[.int .u64 (IntKind.u64.wrap (a1 + a2))] rfl (by (try simp only [List.map_toArray, List.map_cons, List.map_nil]); first | done | rfl | (simp only [List.length_drop, List.length_take]; rfl)) ?_; (with_reducible refine (ravelinref16_short.calls k (IntKind.u64.wrap (a1 + a2)) t295 _ A16.out).mono ?_); rintro e w' ⟨rfl, ⟨nd, rfl⟩⟩; refine ⟨_, rfl, ?_⟩))
                  go_ret2
                  exact ⟨by first | rfl | (simp; done) | (simp [*]; done), by repeat (first | exact Drawn0.refl _ | apply Drawn0.step)⟩
                · rw [if_neg c15] at H
                  have c15b0 : (a0 == 23) = false := beq_eq_false_iff_ne.mpr c15
                  have c15b1 : (a0 != 23) = true := bne_iff_ne.mpr c15
                  by_cases c17 : a0 = 24
                  · rw [if_pos c17] at H
                    have c17b0 : (a0 == 24) = true := beq_iff_eq.mpr c17
                    have c17b1 : (a0 != 24) = false := bne_eq_false_iff_eq.mpr c17
                    clear c17
                    replace H := Option.bind_eq_some_iff.mp H
                    obtain ⟨t296, A180, H⟩ := H
                    replace H : (some (t296, 0)) = some (r1, r2) := H
                    have A18 := Aside0.mk A180
                    clear A180
                    simp only [Option.some.injEq, Prod.mk.injEq] at H
                    obtain ⟨rfl, rfl⟩ := H
                    go_enter Tryz.func89, Tryz.ntmps89
                    go_wp2_with (first | ((with_reducible refine gate_callee (f := 106) rfl ?_); refine goesL_ (some 57) rfl rfl Tryz.func106 (by kernel_rfl) rfl #[.int .u64 (IntKind.u64.wrap (a1 - a2))] rfl (by (try simp only [List.map_toArray, List.map_cons, List.map_nil]); first | done | rfl | (simp only [List.length_drop, List.length_take]; rfl)) ?_; (with_reducible refine (ravelinref16_short.calls k (IntKind.u64.wrap (a1 - a2)) t296 _ A18.out).mono ?_); rintro e w' ⟨rfl, ⟨nd, rfl⟩⟩; refine ⟨_, rfl, ?_⟩))
                    go_ret2
                    exact ⟨by first | rfl | (simp; done) | (simp [*]; done), by repeat (first | exact Drawn0.refl _ | apply Drawn0.step)⟩
                  · rw [if_neg c17] at H
                    have c17b0 : (a0 == 24) = false := beq_eq_false_iff_ne.mpr c17
                    have c17b1 : (a0 != 24) = true := bne_iff_ne.mpr c17
                    by_cases c19 : a0 = 25
                    · rw [if_pos c19] at H
                      have c19b0 : (a0 == 25) = true := beq_iff_eq.mpr c19
                      have c19b1 : (a0 != 25) = false := bne_eq_false_iff_eq.mpr c19
                      clear c19
                      replace H := Option.bind_eq_some_iff.mp H
                      obtain ⟨t297, A200, H⟩ := H
                      replace H : (some (t297, 0)) = some (r1, r2) := H
                      have A20 := Aside0.mk A200
                      clear A200
                      simp only [Option.some.injEq, Prod.mk.injEq] at H
                      obtain ⟨rfl, rfl⟩ := H
                      go_enter Tryz.func89, Tryz.ntmps89
                      go_wp2_with (first | ((with_reducible refine gate_callee (f := 106) rfl ?_); refine goesL_ (some 63) rfl rfl Tryz.func106 (by kernel_rfl) rfl #[.int .u64 (IntKind.u64.wrap (a1 * a2))] rfl (by (try simp only [List.map_toArray, List.map_cons, List.map_nil]); first | done | rfl | (simp only [List.length_drop, List.length_take]; rfl)) ?_; (with_reducible refine (ravelinref16_short.calls k (IntKind.u64.wrap (a1 * a2)) t297 _ A20.out).mono ?_); rintro e w' ⟨rfl, ⟨nd, rfl⟩⟩; refine ⟨_, rfl, ?_⟩))
                      go_ret2
                      exact ⟨by first | rfl | (simp; done) | (simp [*]; done), by repeat (first | exact Drawn0.refl _ | apply Drawn0.step)⟩
                    · rw [if_neg c19] at H
                      have c19b0 : (a0 == 25) = false := beq_eq_false_iff_ne.mpr c19
                      have c19b1 : (a0 != 25) = true := bne_iff_ne.mpr c19
                      by_cases c21 : a0 = 27
                      · rw [if_pos c21] at H
                        have c21b0 : (a0 == 27) = true := beq_iff_eq.mpr c21
                        have c21b1 : (a0 != 27) = false := bne_eq_false_iff_eq.mpr c21
                        clear c21
                        by_cases c22 : 0 ≤ (Go.bits .and .u64 a2 31)
                        · rw [if_pos c22] at H
                          have c22b0 := eq_true c22
                          have c22b1 : decide (0 ≤ (Go.bits .and .u64 a2 31)) = true := decide_eq_true c22
                          clear c22
                          obtain ⟨ji23, hji23⟩ : ∃ j_ : Int, (shl .u64 a1 (Go.bits .and .u64 a2 31)) = j_ := ⟨_, rfl⟩
                          replace H : ((ravelinref16_short.f k (ji23)).bind fun t298 => (some (t298, 0))) = some (r1, r2) := by first | (rw [hji23] at H; exact H) | (simp only [hji23] at H ⊢; exact H)
                          have hji23_ : (IntKind.u64.wrap (a1 * 2 ^ min (Go.bits .and .u64 a2 31).toNat 64)) = ji23 := hji23
                          have hji23z : (Go.bits .and .u64 a2 31) ≤ 64 → (IntKind.u64.wrap (a1 * 2 ^ (Go.bits .and .u64 a2 31).toNat)) = ji23 := shl_small hji23
                          replace H := Option.bind_eq_some_iff.mp H
                          obtain ⟨t298, A240, H⟩ := H
                          replace H : (some (t298, 0)) = some (r1, r2) := H
                          have A24 := Aside0.mk A240
                          clear A240
                          simp only [Option.some.injEq, Prod.mk.injEq] at H
                          obtain ⟨rfl, rfl⟩ := H
                          go_enter Tryz.func89, Tryz.ntmps89
                          go_wp2_with (first | ((with_reducible refine gate_callee (f := 106) rfl ?_); refine goesL_ (some 70) rfl rfl Tryz.func106 (by kernel_rfl) rfl #[.int .u64 ji23] rfl (by (try simp only [List.map_toArray, List.map_cons, List.map_nil]); first | done | (simp only [hji23]; rfl) | rfl | (simp only [List.length_drop, List.length_take]; rfl)) ?_; (with_reducible refine (ravelinref16_short.calls k ji23 t298 _ A24.out).mono ?_); rintro e w' ⟨rfl, ⟨nd, rfl⟩⟩; refine ⟨_, rfl, ?_⟩))
                          go_ret2
                          exact ⟨by first | rfl | (simp; done) | (simp only [← hji23] <;> (first | rfl | simp)) | (simp [*]; done), by repeat (first | exact Drawn0.refl _ | apply Drawn0.step)⟩
                        · rw [if_neg c22] at H
                          exact absurd H (by simp)
                      · rw [if_neg c21] at H
                        have c21b0 : (a0 == 27) = false := beq_eq_false_iff_ne.mpr c21
                        have c21b1 : (a0 != 27) = true := bne_iff_ne.mpr c21
                        by_cases c25 : a0 = 28
                        · rw [if_pos c25] at H
                          have c25b0 : (a0 == 28) = true := beq_iff_eq.mpr c25
                          have c25b1 : (a0 != 28) = false := bne_eq_false_iff_eq.mpr c25
                          clear c25
                          by_cases c26 : 0 ≤ (Go.bits .and .u64 a2 31)
                          · rw [if_pos c26] at H
                            have c26b0 := eq_true c26
                            have c26b1 : decide (0 ≤ (Go.bits .and .u64 a2 31)) = true := decide_eq_true c26
                            clear c26
                            obtain ⟨ji27, hji27⟩ : ∃ j_ : Int, (shr .u64 (Go.bits .and .u64 a1 4294967295) (Go.bits .and .u64 a2 31)) = j_ := ⟨_, rfl⟩
                            replace H : ((ravelinref16_short.f k (ji27)).bind fun t299 => (some (t299, 0))) = some (r1, r2) := by first | (rw [hji27] at H; exact H) | (simp only [hji27] at H ⊢; exact H)
                            have hji27_ : ((Go.bits .and .u64 a1 4294967295) / 2 ^ min (Go.bits .and .u64 a2 31).toNat 64) = ji27 := hji27
                            have hji27z : (Go.bits .and .u64 a2 31) ≤ 64 → ((Go.bits .and .u64 a1 4294967295) / 2 ^ (Go.bits .and .u64 a2 31).toNat) = ji27 := shr_small hji27
                            replace H := Option.bind_eq_some_iff.mp H
                            obtain ⟨t299, A280, H⟩ := H
                            replace H : (some (t299, 0)) = some (r1, r2) := H
                            have A28 := Aside0.mk A280
                            clear A280
                            simp only [Option.some.injEq, Prod.mk.injEq] at H
                            obtain ⟨rfl, rfl⟩ := H
                            go_enter Tryz.func89, Tryz.ntmps89
                            go_wp2_with (first | ((with_reducible refine gate_callee (f := 106) rfl ?_); refine goesL_ (some 78) rfl rfl Tryz.func106 (by kernel_rfl) rfl #[.int .u64 ji27] rfl (by (try simp only [List.map_toArray, List.map_cons, List.map_nil]); first | done | (simp only [hji27]; rfl) | rfl | (simp only [List.length_drop, List.length_take]; rfl)) ?_; (with_reducible refine (ravelinref16_short.calls k ji27 t299 _ A28.out).mono ?_); rintro e w' ⟨rfl, ⟨nd, rfl⟩⟩; refine ⟨_, rfl, ?_⟩))
                            go_ret2
                            exact ⟨by first | rfl | (simp; done) | (simp only [← hji27] <;> (first | rfl | simp)) | (simp [*]; done), by repeat (first | exact Drawn0.refl _ | apply Drawn0.step)⟩
                          · rw [if_neg c26] at H
                            exact absurd H (by simp)
                        · rw [if_neg c25] at H
                          have c25b0 : (a0 == 28) = false := beq_eq_false_iff_ne.mpr c25
                          have c25b1 : (a0 != 28) = true := bne_iff_ne.mpr c25
                          by_cases c29 : ((a2) % 4294967296) = 0
                          · rw [if_pos c29] at H
                            have c29b0 : (((a2) % 4294967296) == 0) = true := beq_iff_eq.mpr c29
                            have c29b1 : (((a2) % 4294967296) != 0) = false := bne_eq_false_iff_eq.mpr c29
                            clear c29
                            simp only [Option.some.injEq, Prod.mk.injEq] at H
                            obtain ⟨rfl, rfl⟩ := H
                            go_enter Tryz.func89, Tryz.ntmps89
                            go_wp2
                            go_ret2
                            exact ⟨by first | rfl | (simp; done) | (simp [*]; done), by repeat (first | exact Drawn0.refl _ | apply Drawn0.step)⟩
                          · rw [if_neg c29] at H
                            have c29b0 : (((a2) % 4294967296) == 0) = false := beq_eq_false_iff_ne.mpr c29
                            have c29b1 : (((a2) % 4294967296) != 0) = true := bne_iff_ne.mpr c29
                            replace H := Option.bind_eq_some_iff.mp H
                            obtain ⟨t300, A300, H⟩ := H
                            replace H : (some (t300, 0)) = some (r1, r2) := H
                            have A30 := Aside0.mk A300
                            clear A300
                            simp only [Option.some.injEq, Prod.mk.injEq] at H
                            obtain ⟨rfl, rfl⟩ := H
                            have hdivq : IntKind.u64.wrap (a1 % 4294967296 / (a2 % 4294967296)) = (a1 % 4294967296 / (a2 % 4294967296)) % 4294967296 := by
                              have q0 : 0 ≤ a1 % 4294967296 / (a2 % 4294967296) := Int.ediv_nonneg (by omega) (by omega)
                              have q1 : a1 % 4294967296 / (a2 % 4294967296) ≤ a1 % 4294967296 := Int.ediv_le_self _ (by omega)
                              have q2 : a1 % 4294967296 < 4294967296 := by omega
                              generalize a1 % 4294967296 / (a2 % 4294967296) = q at q0 q1
                              simp only [IntKind.wrap, IntKind.bits, IntKind.signed, Bool.false_and, Bool.false_eq_true, if_false]
                              omega
                            go_enter Tryz.func89, Tryz.ntmps89
                            go_wp2_with (first | ((with_reducible refine gate_callee (f := 106) rfl ?_); refine goesL_ (some 88) rfl rfl Tryz.func106 (by kernel_rfl) rfl #[.int .u64 ((((a1) % 4294967296) / ((a2) % 4294967296)) % 4294967296)] rfl (by (try simp only [List.map_toArray, List.map_cons, List.map_nil]); first | done | rfl | (simp only [List.length_drop, List.length_take]; rfl)) ?_; (with_reducible refine (ravelinref16_short.calls k ((((a1) % 4294967296) / ((a2) % 4294967296)) % 4294967296) t300 _ A30.out).mono ?_); rintro e w' ⟨rfl, ⟨nd, rfl⟩⟩; refine ⟨_, rfl, ?_⟩))
                            go_ret2
                            exact ⟨by first | rfl | (simp; done) | (simp [*]; done), by repeat (first | exact Drawn0.refl _ | apply Drawn0.step)⟩
def ravelinref16_asks.f (a0 : Int) (a1 : Int) (a2 : Int) : Option (Bool) := if a0 = 29 then (some (a1 == a2)) else (if a0 = 30 then (some (a1 != a2)) else (if a0 = 31 then (some (decide (a1 < a2))) else (some (decide (a1 ≥ a2)))))
set_option maxHeartbeats 8000000 in
set_option maxRecDepth 100000 in
theorem ravelinref16_asks.calls (a0 : Int) (a1 : Int) (a2 : Int) (r : Bool) (w : World) (h : ravelinref16_asks.f a0 a1 a2 = some r) :
    Calls Tryz.prog 91 #[.int .i64 a0, .int .u64 a1, .int .u64 a2] w fun e w' => e = .returned (.bool r) ∧ Drawn0 w w' := by
  have H : (if a0 = 29 then (some (a1 == a2)) else (if a0 = 30 then (some (a1 != a2)) else (if a0 = 31 then (some (decide (a1 < a2))) else (some (decide (a1 ≥ a2)))))) = some r := h
  clear h
  by_cases c4 : a0 = 29
  · rw [if_pos c4] at H
    have c4b0 : (a0 == 29) = true := beq_iff_eq.mpr c4
    have c4b1 : (a0 != 29) = false := bne_eq_false_iff_eq.mpr c4
    clear c4
    obtain rfl := Option.some.inj H
    go_enter Tryz.func91, Tryz.ntmps91
    go_wp2
    go_ret
    exact ⟨by first | rfl | (simp; done) | (simp [*]; done), by repeat (first | exact Drawn0.refl _ | apply Drawn0.step)⟩
  · rw [if_neg c4] at H
    have c4b0 : (a0 == 29) = false := beq_eq_false_iff_ne.mpr c4
    have c4b1 : (a0 != 29) = true := bne_iff_ne.mpr c4
    by_cases c5 : a0 = 30
    · rw [if_pos c5] at H
      have c5b0 : (a0 == 30) = true := beq_iff_eq.mpr c5
      have c5b1 : (a0 != 30) = false := bne_eq_false_iff_eq.mpr c5
      clear c5
      obtain rfl := Option.some.inj H
      go_enter Tryz.func91, Tryz.ntmps91
      go_wp2
      go_ret
      exact ⟨by first | rfl | (simp; done) | (simp [*]; done), by repeat (first | exact Drawn0.refl _ | apply Drawn0.step)⟩
    · rw [if_neg c5] at H
      have c5b0 : (a0 == 30) = false := beq_eq_false_iff_ne.mpr c5
      have c5b1 : (a0 != 30) = true := bne_iff_ne.mpr c5
      by_cases c6 : a0 = 31
      · rw [if_pos c6] at H
        have c6b0 : (a0 == 31) = true := beq_iff_eq.mpr c6
        have c6b1 : (a0 != 31) = false := bne_eq_false_iff_eq.mpr c6
        clear c6
        obtain rfl := Option.some.inj H
        go_enter Tryz.func91, Tryz.ntmps91
        go_wp2
        go_ret
        exact ⟨by first | rfl | (simp; done) | (simp [*]; done), by repeat (first | exact Drawn0.refl _ | apply Drawn0.step)⟩
      · rw [if_neg c6] at H
        have c6b0 : (a0 == 31) = false := beq_eq_false_iff_ne.mpr c6
        have c6b1 : (a0 != 31) = true := bne_iff_ne.mpr c6
        obtain rfl := Option.some.inj H
        go_enter Tryz.func91, Tryz.ntmps91
        go_wp2
        go_ret
        exact ⟨by first | rfl | (simp; done) | (simp [*]; done), by repeat (first | exact Drawn0.refl _ | apply Drawn0.step)⟩
def ravelinref16_within.f (a0 : Int) (a1 : Int) (a2 : Int) (a3 : Int) : Option (Bool) := if a0 ≥ a2 then (if (IntKind.u64.wrap (a0 - a2)) ≤ (IntKind.u64.wrap (a3)) then (some (decide ((IntKind.u64.wrap (a1)) ≤ (IntKind.u64.wrap ((IntKind.u64.wrap (a3)) - (IntKind.u64.wrap (a0 - a2))))))) else (some false)) else (some false)
set_option maxHeartbeats 8000000 in
set_option maxRecDepth 100000 in
theorem ravelinref16_within.calls (a0 : Int) (a1 : Int) (a2 : Int) (a3 : Int) (r : Bool) (w : World) (h : ravelinref16_within.f a0 a1 a2 a3 = some r) :
    Calls Tryz.prog 46 #[.int .u64 a0, .int .i64 a1, .int .u64 a2, .int .i64 a3] w fun e w' => e = .returned (.bool r) ∧ Drawn0 w w' := by
  have H : (if a0 ≥ a2 then (if (IntKind.u64.wrap (a0 - a2)) ≤ (IntKind.u64.wrap (a3)) then (some (decide ((IntKind.u64.wrap (a1)) ≤ (IntKind.u64.wrap ((IntKind.u64.wrap (a3)) - (IntKind.u64.wrap (a0 - a2))))))) else (some false)) else (some false)) = some r := h
  clear h
  by_cases c5 : a0 ≥ a2
  · rw [if_pos c5] at H
    have c5b0 : decide (a2 ≤ a0) = true := decide_eq_true c5
    clear c5
    by_cases c6 : (IntKind.u64.wrap (a0 - a2)) ≤ (IntKind.u64.wrap (a3))
    · rw [if_pos c6] at H
      have c6b0 : decide ((IntKind.u64.wrap (a0 - a2)) ≤ (IntKind.u64.wrap (a3))) = true := decide_eq_true c6
      clear c6
      obtain rfl := Option.some.inj H
      go_enter Tryz.func46, Tryz.ntmps46
      go_wp2
      go_ret
      exact ⟨by first | rfl | (simp; done) | (simp [*]; done), by repeat (first | exact Drawn0.refl _ | apply Drawn0.step)⟩
    · rw [if_neg c6] at H
      have c6b0 : decide ((IntKind.u64.wrap (a0 - a2)) ≤ (IntKind.u64.wrap (a3))) = false := decide_eq_false c6
      clear c6
      obtain rfl := Option.some.inj H
      go_enter Tryz.func46, Tryz.ntmps46
      go_wp2
      go_ret
      exact ⟨by first | rfl | (simp; done) | (simp [*]; done), by repeat (first | exact Drawn0.refl _ | apply Drawn0.step)⟩
  · rw [if_neg c5] at H
    have c5b0 : decide (a2 ≤ a0) = false := decide_eq_false c5
    clear c5
    obtain rfl := Option.some.inj H
    go_enter Tryz.func46, Tryz.ntmps46
    go_wp2
    go_ret
    exact ⟨by first | rfl | (simp; done) | (simp [*]; done), by repeat (first | exact Drawn0.refl _ | apply Drawn0.step)⟩
end Go.Proofs.YtcgkgaibomcheaaGreat.PRvemuRuns
end

section
namespace Go.Proofs.YtcgkgaibomcheaaGreat.PRvemuRuns
open Go.RowKit YtcgkgaibomcheaaGreatW.PrintWords YtcgkgaibomcheaaGreatW.PrintLast YtcgkgaibomcheaaGreatW.PrintMore
attribute [local go_sem] max2_int min2_int max_two min_two max_three min_three max_four min_four
mutual
def ravelinref01_Store.j0 : Nat → Int → Int → Int → List Int → Bool → Option (List Int × Int)
  | 0, _, _, _, _, _ => none
  | k + 1, x1, x2, x3, x10, x38 => if x38 = true then (some (x10, 1)) else (ravelinref01_Store.l0 k x1 x2 x3 x10 0)
def ravelinref01_Store.l0 : Nat → Int → Int → Int → List Int → Int → Option (List Int × Int)
  | 0, _, _, _, _, _ => none
  | k + 1, x1, x2, x3, x10, x11 => if x11 < x2 then (if 0 ≤ (IntKind.u64.wrap (wrap64 (8 * x11))) then (if 0 ≤ (wrap64 (x1 + x11)) then (if (wrap64 (x1 + x11)) < (x10.length : Int) then (ravelinref01_Store.l0 k x1 x2 x3 (x10.set ((wrap64 (x1 + x11)) : Int).toNat ((shr .u64 x3 (IntKind.u64.wrap (wrap64 (8 * x11)))) % 256)) (wrap64 (x11 + 1))) else (none)) else (none)) else (none)) else (some (x10, 0))
end
def ravelinref01_Store.f (k : Nat) (l0 : List Int) (a1 : Int) (a2 : Int) (a3 : Int) : Option (List Int × Int) := (some (([] : List Int) : List Int)).bind fun y301 => (if y301.length + l0.length < 140737488355328 then ((some (y301 ++ l0 : List Int)).bind fun y304 => (if a2 < 1 then (ravelinref01_Store.j0 k a1 a2 a3 y304 true) else (if a2 > 8 then (ravelinref01_Store.j0 k a1 a2 a3 y304 true) else (if a1 < 0 then (ravelinref01_Store.j0 k a1 a2 a3 y304 true) else (if a1 > (l0.length : Int) then (ravelinref01_Store.j0 k a1 a2 a3 y304 true) else (ravelinref01_Store.j0 k a1 a2 a3 y304 (decide (a2 > (wrap64 ((l0.length : Int) - a1)))))))))) else (none))
set_option maxHeartbeats 8000000 in
set_option maxRecDepth 100000 in
theorem ravelinref01_Store.calls (k : Nat) (A0 : Option Addr) (c0 : Nat) (l0 : List Int) (a1 : Int) (a2 : Int) (a3 : Int) (r1 : List Int) (r2 : Int) (w : World) (hr0 : Kd.C (Kd.int .u8) w A0 l0.length l0) (hc0 : l0.length ≤ c0) (h : ravelinref01_Store.f k l0 a1 a2 a3 = some (r1, r2)) :
    Calls Tryz.prog 107 #[.slice A0 l0.length c0, .int .i64 a1, .int .i64 a2, .int .u64 a3] w fun e w' => ∃ v0_ : Value, e = .returned (.tuple #[v0_, .int .i64 r2]) ∧ Kd.R (Kd.int .u8) 5 w' w.heap.size (fun _ => True) v0_ r1 ∧ Below w.heap.size w w' := by
  have HR0 := Aside0.mk hr0
  have HC0 := Aside0.mk hc0
  clear hr0 hc0
  have HB := Aside0.mk (Below.refl w.heap.size w)
  have H : ((some (([] : List Int) : List Int)).bind fun y301 => (if y301.length + l0.length < 140737488355328 then ((some (y301 ++ l0 : List Int)).bind fun y304 => (if a2 < 1 then (ravelinref01_Store.j0 k a1 a2 a3 y304 true) else (if a2 > 8 then (ravelinref01_Store.j0 k a1 a2 a3 y304 true) else (if a1 < 0 then (ravelinref01_Store.j0 k a1 a2 a3 y304 true) else (if a1 > (l0.length : Int) then (ravelinref01_Store.j0 k a1 a2 a3 y304 true) else (ravelinref01_Store.j0 k a1 a2 a3 y304 (decide (a2 > (wrap64 ((l0.length : Int) - a1)))))))))) else (none))) = some (r1, r2) := h
  clear h
  obtain ⟨y301, hy301⟩ : ∃ y_ : List Int, y_ = (([] : List Int)) := ⟨_, rfl⟩
  replace H : (if y301.length + l0.length < 140737488355328 then ((some (y301 ++ l0 : List Int)).bind fun y304 => (if a2 < 1 then (ravelinref01_Store.j0 k a1 a2 a3 y304 true) else (if a2 > 8 then (ravelinref01_Store.j0 k a1 a2 a3 y304 true) else (if a1 < 0 then (ravelinref01_Store.j0 k a1 a2 a3 y304 true) else (if a1 > (l0.length : Int) then (ravelinref01_Store.j0 k a1 a2 a3 y304 true) else (ravelinref01_Store.j0 k a1 a2 a3 y304 (decide (a2 > (wrap64 ((l0.length : Int) - a1)))))))))) else (none)) = some (r1, r2) := by first | (rw [hy301]; with_reducible exact H) | (have H2_ := (Option.bind_some _ _).symm.trans H; rw [hy301]; with_reducible exact H2_) | (have H2_ := (Option.bind_some _ _).symm.trans H; with_reducible exact H2_) | with_reducible exact H | (rw [hy301]; exact H) | exact H
  have Ny301 := Aside0.mk hy301
  clear hy301
  by_cases c5 : y301.length + l0.length < 140737488355328
  · rw [if_pos c5] at H
    have LMc5 := Aside0.mk c5
    clear c5
    obtain ⟨y304, hy304⟩ : ∃ y_ : List Int, y_ = (y301 ++ l0) := ⟨_, rfl⟩
    replace H : (if a2 < 1 then (ravelinref01_Store.j0 k a1 a2 a3 y304 true) else (if a2 > 8 then (ravelinref01_Store.j0 k a1 a2 a3 y304 true) else (if a1 < 0 then (ravelinref01_Store.j0 k a1 a2 a3 y304 true) else (if a1 > (l0.length : Int) then (ravelinref01_Store.j0 k a1 a2 a3 y304 true) else (ravelinref01_Store.j0 k a1 a2 a3 y304 (decide (a2 > (wrap64 ((l0.length : Int) - a1))))))))) = some (r1, r2) := by first | (rw [hy304]; with_reducible exact H) | (have H2_ := (Option.bind_some _ _).symm.trans H; rw [hy304]; with_reducible exact H2_) | (have H2_ := (Option.bind_some _ _).symm.trans H; with_reducible exact H2_) | with_reducible exact H | (rw [hy304]; exact H) | exact H
    have Ny304 := Aside0.mk hy304
    clear hy304
    have HC6 := Aside0.mk H
    clear H
    go_enter Tryz.func107, Tryz.ntmps107
    go_upto_region 2 with (first | ((with_reducible refine gate_dst (N := 12) rfl ?_); (try (refine gate_guard (by rfl) ?_; dsimp only)); refine Kd.R_lit (Kd.int .u8) _ 5 ?hg (N := 12) ?hd (xs := ([] : List Int)) (inner := []) (ok := fun _ => True) (okp := fun _ => True) ?hr ?hp (fun _ hk => hk) trivial (Below.refl _ _) (Nat.le_refl _) (by simp) ?_; (case hd => rfl); (case hg => rfl); (case hr => first | (go_simp; done) | (go_simp; rfl)); (case hp => exact (Reps.none _ _)); intro v302 w7 ho8 hb hg_ hnew_; clear hg_ hnew_; (first | rw [← Ny301.out] at ho8 | (simp only [Int.reduceToNat] at ho8; rw [← Ny301.out] at ho8)); have n0_ := Aside0.mk (Kd.R_lower ho8 (below_size (by repeat (first | (with_reducible first | exact HB.out | apply below_alloc | apply pw_below_drewN | apply below_drew1) | exact HB.out)))); have n1_ := Aside0.mk (below_step (by repeat (first | (with_reducible first | exact HB.out | apply below_alloc | apply pw_below_drewN | apply below_drew1) | exact HB.out)) hb); clear HB; have HO303 := n0_; have HB := n1_; clear n0_ n1_; clear hb ho8) | ((with_reducible refine gate_builtin (b := .append) (xs := #[.tmp 12, .tmp 13]) rfl ?_); (try (refine gate_guard (by rfl) ?_; dsimp only)); at_builtin; refine Kd.R_append_rows (Kd.int .u8) (w0 := w) w.heap.size rfl (.tmp 12) (.tmp 13) 22 5 (.int .u8 0) 1 rfl Tryz.underlying22 info5 rfl (by decide) (by omega) v302 y301 l0 _ _ _ (fun _ => True) (fun _ => False) rfl rfl ?aO ?aR (fun _ _ h => h) (fun _ h => h.elim) ?aF ?aB ?aS ?aL ?_; (case aR => repeat (first | exact (Kd.C_below HR0.out HB.out) | (with_reducible refine Kd.C_alloc ?_ _) | (with_reducible refine Kd.C_drewN ?_ _) | (with_reducible refine Kd.C_drew ?_))); (case aB => exact (by repeat (first | (with_reducible first | exact HB.out | apply below_alloc | apply pw_below_drewN | apply below_drew1) | exact HB.out))); (case aF => exact (fun _ _ => trivial)); (case aO => exact (by (with_reducible repeat (first | apply Kd.R_alloc | apply Kd.R_drewN | apply Kd.R_drew)); exact HO303.out)); (case aS => exact (below_size (by repeat (first | (with_reducible first | exact HB.out | apply below_alloc | apply pw_below_drewN | apply below_drew1) | exact HB.out)))); (case aL => have := LMc5.out; omega); intro v305 w9 ho hb hg hat; rw [← Ny304.out] at ho; have n0_ := Aside0.mk (hb); have n1_ := Aside0.mk (ho); clear HB; clear HO303; have HB := n0_; have HO306 := n1_; clear n0_ n1_; clear ho hb hg hat))
    (try simp only [Act.put, List.setIfInBounds_toArray, List.set])
    go_cut [38] (fun v38 wc => ∃ (kq : Nat) (x38_5 : Bool), v38 = .bool x38_5 ∧ Aside0 (ravelinref01_Store.j0 kq a1 a2 a3 y304 x38_5 = some (r1, r2)) ∧ Aside0 (kq ≤ k) ∧ Aside0 (Kd.R (Kd.int .u8) 5 wc w.heap.size (fun _ => True) v305 y304) ∧ Aside0 (Below w.heap.size w wc))
    case first =>
      have H := HC6.out
      clear HC6
      by_cases c10 : a2 < 1
      · rw [if_pos c10] at H
        have c10b0 : decide (a2 < 1) = true := decide_eq_true c10
        clear c10
        (first | rw [c10b0] | (simp only [i64_w, i32_w]; rw [c10b0]) | skip)
        have H' := Aside0.mk H
        clear H
        go_wp2
        go_meet
        case rel => exact ⟨_, (true), (by first | rfl | (simp; done) | (simp [*]; done)), H', ⟨by first | omega | exact Nat.le_refl _⟩, ⟨by (with_reducible repeat (first | apply Kd.R_alloc | apply Kd.R_drewN | apply Kd.R_drew)); exact HO306.out⟩, ⟨by repeat (first | (with_reducible first | exact HB.out | apply below_alloc | apply pw_below_drewN | apply below_drew1) | exact HB.out)⟩⟩
      · rw [if_neg c10] at H
        have c10b0 : decide (a2 < 1) = false := decide_eq_false c10
        clear c10
        (first | rw [c10b0] | (simp only [i64_w, i32_w]; rw [c10b0]) | skip)
        by_cases c11 : a2 > 8
        · rw [if_pos c11] at H
          have c11b0 : decide (8 < a2) = true := decide_eq_true c11
          clear c11
          have H' := Aside0.mk H
          clear H
          go_wp2
          go_meet
          case rel => exact ⟨_, (true), (by first | rfl | (simp; done) | (simp [*]; done)), H', ⟨by first | omega | exact Nat.le_refl _⟩, ⟨by (with_reducible repeat (first | apply Kd.R_alloc | apply Kd.R_drewN | apply Kd.R_drew)); exact HO306.out⟩, ⟨by repeat (first | (with_reducible first | exact HB.out | apply below_alloc | apply pw_below_drewN | apply below_drew1) | exact HB.out)⟩⟩
        · rw [if_neg c11] at H
          have c11b0 : decide (8 < a2) = false := decide_eq_false c11
          clear c11
          by_cases c12 : a1 < 0
          · rw [if_pos c12] at H
            have c12b0 : decide (a1 < 0) = true := decide_eq_true c12
            clear c12
            have H' := Aside0.mk H
            clear H
            go_wp2
            go_meet
            case rel => exact ⟨_, (true), (by first | rfl | (simp; done) | (simp [*]; done)), H', ⟨by first | omega | exact Nat.le_refl _⟩, ⟨by (with_reducible repeat (first | apply Kd.R_alloc | apply Kd.R_drewN | apply Kd.R_drew)); exact HO306.out⟩, ⟨by repeat (first | (with_reducible first | exact HB.out | apply below_alloc | apply pw_below_drewN | apply below_drew1) | exact HB.out)⟩⟩
          · rw [if_neg c12] at H
            have c12b0 : decide (a1 < 0) = false := decide_eq_false c12
            clear c12
            by_cases c13 : a1 > (l0.length : Int)
            · rw [if_pos c13] at H
              have c13b0 : decide ((l0.length : Int) < a1) = true := decide_eq_true c13
              clear c13
              have H' := Aside0.mk H
              clear H
              go_wp2
              go_meet
              case rel => exact ⟨_, (true), (by first | rfl | (simp; done) | (simp [*]; done)), H', ⟨by first | omega | exact Nat.le_refl _⟩, ⟨by (with_reducible repeat (first | apply Kd.R_alloc | apply Kd.R_drewN | apply Kd.R_drew)); exact HO306.out⟩, ⟨by repeat (first | (with_reducible first | exact HB.out | apply below_alloc | apply pw_below_drewN | apply below_drew1) | exact HB.out)⟩⟩
            · rw [if_neg c13] at H
              have c13b0 : decide ((l0.length : Int) < a1) = false := decide_eq_false c13
              clear c13
              have H' := Aside0.mk H
              clear H
              go_wp2
              go_meet
              case rel => exact ⟨_, (decide (a2 > (wrap64 ((l0.length : Int) - a1)))), (by first | rfl | (simp; done) | (simp [*]; done)), H', ⟨by first | omega | exact Nat.le_refl _⟩, ⟨by (with_reducible repeat (first | apply Kd.R_alloc | apply Kd.R_drewN | apply Kd.R_drew)); exact HO306.out⟩, ⟨by repeat (first | (with_reducible first | exact HB.out | apply below_alloc | apply pw_below_drewN | apply below_drew1) | exact HB.out)⟩⟩
    case rest =>
      clear HC6
      try clear c1
      try clear p2
      try clear c5
      try clear p6
      try clear c10
      try clear c10b0
      try clear c11
      try clear c11b0
      try clear c12
      try clear c12b0
      try clear c13
      try clear c13b0
      obtain ⟨kq, x38_5, rfl, HA, HJ5, HO_10, HB⟩ := hcut
      cases kq with
      | zero => exact absurd HA.out (by simp [ravelinref01_Store.j0])
      | succ kj5 =>
        have H := HA.out
        clear HA
        simp only [ravelinref01_Store.j0] at H
        by_cases c14 : x38_5 = true
        · subst c14
          have H1 : (some (y304, 1)) = some (r1, r2) := by rw [if_pos rfl] at H; exact H
          clear H
          have H := H1
          clear H1
          simp only [Option.some.injEq, Prod.mk.injEq] at H
          obtain ⟨rfl, rfl⟩ := H
          go_wp2
          go_ret2
          exact ⟨_, by first | rfl | (simp [errW_none, errW_some] <;> rfl) | (simp [*, errW_none, errW_some] <;> rfl), by (with_reducible repeat (first | apply Kd.R_alloc | apply Kd.R_drewN | apply Kd.R_drew)); exact HO_10.out, by repeat (first | (with_reducible first | exact HB.out | apply below_alloc | apply pw_below_drewN | apply below_drew1) | exact HB.out)⟩
        · replace c14 := Bool.eq_false_iff.mpr c14
          subst c14
          have H1 : (ravelinref01_Store.l0 kj5 a1 a2 a3 y304 0) = some (r1, r2) := by rw [if_neg (show ¬ (false = true) by decide)] at H; exact H
          clear H
          have H := H1
          clear H1
          have H' := Aside0.mk H
          clear H
          go_wp2
          go_loopg [11] kj5 (fun kq v11 w' => ∃ (x10_2 : List Int) (x11_2 : Int), v11 = .int .i64 x11_2 ∧ Aside0 (ravelinref01_Store.l0 kq a1 a2 a3 x10_2 x11_2 = some (r1, r2)) ∧ Aside0 (kq ≤ kj5) ∧ Aside0 (Kd.R (Kd.int .u8) 5 w' w.heap.size (fun _ => True) v305 x10_2) ∧ Aside0 (Below w.heap.size w w'))
          case atStart => exact ⟨(y304), (0), (by first | rfl | (simp; done) | (simp [*]; done)), H', ⟨Nat.le_refl _⟩, ⟨by (with_reducible repeat (first | apply Kd.R_alloc | apply Kd.R_drewN | apply Kd.R_drew)); exact HO_10.out⟩, ⟨by repeat (first | (with_reducible first | exact HB.out | apply below_alloc | apply pw_below_drewN | apply below_drew1) | exact HB.out)⟩⟩
          case round =>
            clear H'
            try clear c1
            try clear p2
            try clear c5
            try clear p6
            try clear c10
            try clear c10b0
            try clear c11
            try clear c11b0
            try clear c12
            try clear c12b0
            try clear c13
            try clear c13b0
            try clear c14
            try clear p2
            try clear p6
            obtain ⟨x10_2, x11_2, rfl, HA, HK2, HO_10, HB⟩ := hrel
            cases gk with
            | zero => exact absurd HA.out (by simp [ravelinref01_Store.l0])
            | succ k2 =>
              have H := HA.out
              clear HA
              simp only [ravelinref01_Store.l0] at H
              by_cases c15 : x11_2 < a2
              · rw [if_pos c15] at H
                have c15b0 : decide (x11_2 < a2) = true := decide_eq_true c15
                clear c15
                obtain ⟨ji16, hji16⟩ : ∃ j_ : Int, (IntKind.u64.wrap (wrap64 (8 * x11_2))) = j_ := ⟨_, rfl⟩
                replace H : (if 0 ≤ (ji16) then (if 0 ≤ (wrap64 (a1 + x11_2)) then (if (wrap64 (a1 + x11_2)) < (x10_2.length : Int) then (ravelinref01_Store.l0 k2 a1 a2 a3 (x10_2.set ((wrap64 (a1 + x11_2)) : Int).toNat ((shr .u64 a3 (ji16)) % 256)) (wrap64 (x11_2 + 1))) else (none)) else (none)) else (none)) = some (r1, r2) := by first | (rw [hji16] at H; exact H) | (simp only [hji16] at H ⊢; exact H)
                by_cases c17 : 0 ≤ (ji16)
                · rw [if_pos c17] at H
                  have c17b0 := eq_true c17
                  have c17b1 : decide (0 ≤ (ji16)) = true := decide_eq_true c17
                  clear c17
                  obtain ⟨ji18, hji18⟩ : ∃ j_ : Int, (shr .u64 a3 (ji16)) = j_ := ⟨_, rfl⟩
                  replace H : (if 0 ≤ (wrap64 (a1 + x11_2)) then (if (wrap64 (a1 + x11_2)) < (x10_2.length : Int) then (ravelinref01_Store.l0 k2 a1 a2 a3 (x10_2.set ((wrap64 (a1 + x11_2)) : Int).toNat ((ji18) % 256)) (wrap64 (x11_2 + 1))) else (none)) else (none)) = some (r1, r2) := by first | (rw [hji18] at H; exact H) | (simp only [hji18] at H ⊢; exact H)
                  have hji18_ : (a3 / 2 ^ min (ji16).toNat 64) = ji18 := hji18
                  have hji18z : (ji16) ≤ 64 → (a3 / 2 ^ (ji16).toNat) = ji18 := shr_small hji18
                  obtain ⟨ji19, hji19⟩ : ∃ j_ : Int, (wrap64 (a1 + x11_2)) = j_ := ⟨_, rfl⟩
                  replace H : (if 0 ≤ (ji19) then (if (ji19) < (x10_2.length : Int) then (ravelinref01_Store.l0 k2 a1 a2 a3 (x10_2.set ((ji19) : Int).toNat ((ji18) % 256)) (wrap64 (x11_2 + 1))) else (none)) else (none)) = some (r1, r2) := by first | (rw [hji19] at H; exact H) | (simp only [hji19] at H ⊢; exact H)
                  have hji19w : (IntKind.i64.wrap (a1 + x11_2)) = ji19 := (i64_w _).trans hji19
                  by_cases c20 : 0 ≤ (ji19)
                  · rw [if_pos c20] at H
                    have c20b0 : decide (0 ≤ (ji19)) = true := decide_eq_true c20
                    clear c20
                    by_cases c21 : (ji19) < (x10_2.length : Int)
                    · rw [if_pos c21] at H
                      have c21b0 : decide ((ji19) < (x10_2.length : Int)) = true := decide_eq_true c21
                      clear c21
                      obtain ⟨y307, hy307⟩ : ∃ y_ : List Int, y_ = (x10_2.set ((ji19) : Int).toNat ((ji18) % 256)) := ⟨_, rfl⟩
                      replace H : (ravelinref01_Store.l0 k2 a1 a2 a3 y307 (wrap64 (x11_2 + 1))) = some (r1, r2) := by first | (rw [hy307]; with_reducible exact H) | (have H2_ := (Option.bind_some _ _).symm.trans H; rw [hy307]; with_reducible exact H2_) | (have H2_ := (Option.bind_some _ _).symm.trans H; with_reducible exact H2_) | with_reducible exact H | (rw [hy307]; exact H) | exact H
                      have Ny307 := Aside0.mk hy307
                      clear hy307
                      have H' := Aside0.mk H
                      clear H
                      have p22 : 0 ≤ ((ji19) : Int) := of_decide_eq_true (by first | (with_reducible assumption) | assumption)
                      have q22 : ((ji19) : Int) < ((x10_2.length : Int) : Int) := of_decide_eq_true (by first | (with_reducible assumption) | assumption)
                      obtain ⟨go22, co22, eo22, gb22, gl22, cl22, HG22⟩ := Kd.R_form HO_10.out (by omega)
                      (first | cases eo22 | (injection eo22 with ea_ en_ ec_; (first | subst ea_ | (injection ea_ with ea_; subst ea_)); subst ec_; clear en_))
                      have GB22 := Aside0.mk gb22
                      have GG22 := Aside0.mk HG22
                      clear gb22 gl22 HG22
                      obtain ⟨hx22_0, hf22_0⟩ := Kd.R_celln 0 HO_10.out ((ji19) : Int) p22 q22
                      replace p22 := eq_true p22
                      replace q22 := eq_true q22
                      have HP23 := Kd.R_putg HO_10.out ((ji19) : Int) ((ji18) % 256)
                      go_wp2_with (first | ((with_reducible refine gate_store (t := 5) (p := 55) rfl ?_); refine store_event (t := 5) (p := 55) (v := ?vo_w24) (w1 := (wr.setCell ⟨go22, ((ji19) : Int).toNat, none⟩ (.int .u8 ((ji18) % 256)))) ?hg ?ho ?hn ?hr ?_; (case ho => rfl); (case hg => rfl); (case hn => rfl); (case hr => first | (go_simp; done) | (go_simp; rfl)); intro w24 hw; have hg : wr.grownBy w24 (some go22) := (by rw [hw]; exact HP23.2); have hp_ : Kd.R (Kd.int .u8) 5 w24 w.heap.size (fun _ => True) (.slice (some ⟨go22, 0, none⟩) x10_2.length co22) y307 := (by rw [hw, Ny307.out]; exact HP23.1); clear HP23; have n0_ := Aside0.mk (hp_); have n1_ := Aside0.mk ((by rw [hw]; exact below_set (HB.out) GB22.out : Below w.heap.size w w24)); clear HO_10; clear HB; have HO_10 := n0_; have HB := n1_; clear n0_ n1_; clear hg hw hp_))
                      go_roundg k2
                      case measure => have := HJ5.out; have := HK2.out; omega
                      case rel => exact ⟨(y307), (wrap64 (x11_2 + 1)), (by first | rfl | (simp; done) | (simp [*]; done)), H', ⟨by have := HJ5.out; have := HK2.out; omega⟩, ⟨by (with_reducible repeat (first | apply Kd.R_alloc | apply Kd.R_drewN | apply Kd.R_drew)); exact HO_10.out⟩, ⟨by repeat (first | (with_reducible first | exact HB.out | apply below_alloc | apply pw_below_drewN | apply below_drew1) | exact HB.out)⟩⟩
                    · rw [if_neg c21] at H
                      exact absurd H (by simp)
                  · rw [if_neg c20] at H
                    exact absurd H (by simp)
                · rw [if_neg c17] at H
                  exact absurd H (by simp)
              · rw [if_neg c15] at H
                have c15b0 : decide (x11_2 < a2) = false := decide_eq_false c15
                clear c15
                simp only [Option.some.injEq, Prod.mk.injEq] at H
                obtain ⟨rfl, rfl⟩ := H
                go_wp2
                go_ret2
                exact ⟨_, by first | rfl | (simp [errW_none, errW_some] <;> rfl) | (simp [*, errW_none, errW_some] <;> rfl), by (with_reducible repeat (first | apply Kd.R_alloc | apply Kd.R_drewN | apply Kd.R_drew)); exact HO_10.out, by repeat (first | (with_reducible first | exact HB.out | apply below_alloc | apply pw_below_drewN | apply below_drew1) | exact HB.out)⟩
  · rw [if_neg c5] at H
    exact absurd H (by simp)
end Go.Proofs.YtcgkgaibomcheaaGreat.PRvemuRuns
end

section
namespace Go.Proofs.YtcgkgaibomcheaaGreat.Bits
open Go.RowKit YtcgkgaibomcheaaGreatW.PrintWords YtcgkgaibomcheaaGreatW.PrintLast YtcgkgaibomcheaaGreatW.PrintMore
def byteOf (v : BitVec 64) (i : Nat) : Int := (((v >>> (8 * i)).toNat % 256 : Nat) : Int)
theorem byteOf_range (v : BitVec 64) (i : Nat) : 0 ≤ byteOf v i ∧ byteOf v i < 256 := by unfold byteOf; omega
def st (l : List Int) (a : Nat) (v : BitVec 64) : Nat → List Int
  | 0 => l
  | i + 1 => (st l a v i).set (a + i) (byteOf v i)
theorem st_length (l : List Int) (a : Nat) (v : BitVec 64) : ∀ i, (st l a v i).length = l.length
  | 0 => rfl
  | i + 1 => by unfold st; rw [List.length_set, st_length l a v i]
theorem st_at (l : List Int) (a : Nat) (v : BitVec 64) : ∀ (i j : Nat), j < l.length → (st l a v i).getD j 0 = if a ≤ j ∧ j < a + i then byteOf v (j - a) else l.getD j 0
  | 0, j, _ => by rw [if_neg (by omega)]; rfl
  | i + 1, j, hj => by
    unfold st
    rw [List.getD_eq_getElem?_getD, List.getElem?_set]
    by_cases e : a + i = j
    · subst e
      have hl := st_length l a v i
      rw [if_pos rfl, if_pos (by omega), if_pos (by omega)]
      have : a + i - a = i := by omega
      rw [this]
      rfl
    · rw [if_neg e, ← List.getD_eq_getElem?_getD, st_at l a v i j hj]
      by_cases h : a ≤ j ∧ j < a + i
      · rw [if_pos h, if_pos (by omega)]
      · rw [if_neg h, if_neg (by omega)]
def ld (l : List Int) (a : Nat) : Nat → BitVec 64
  | 0 => 0#64
  | i + 1 => ld l a i ||| (BitVec.ofNat 64 (l.getD (a + i) 0).toNat <<< (8 * i))
def isBytes (l : List Int) : Prop := ∀ x ∈ l, 0 ≤ x ∧ x < 256
theorem isBytes_at {l : List Int} (h : isBytes l) (j : Nat) : 0 ≤ l.getD j 0 ∧ l.getD j 0 < 256 := by
  rw [List.getD_eq_getElem?_getD]
  cases hx : l[j]? with
  | none => simp
  | some x =>
    have := h x (List.mem_of_getElem? hx)
    simpa using this
theorem ld_at {l : List Int} (hl : isBytes l) (a : Nat) : ∀ (n j : Nat), j < 64 → (ld l a n).getLsbD j = (decide (j < 8 * n) && (l.getD (a + j / 8) 0).toNat.testBit (j % 8))
  | 0, j, _ => by unfold ld; simp
  | n + 1, j, hj => by
    unfold ld
    rw [BitVec.getLsbD_or, ld_at hl a n j hj, BitVec.getLsbD_shiftLeft, BitVec.getLsbD_ofNat]
    have hb := isBytes_at hl (a + n)
    by_cases h1 : j < 8 * n
    · have h2 : j < 8 * (n + 1) := by omega
      simp [h1, h2]
    · by_cases h2 : j < 8 * (n + 1)
      · have e1 : j / 8 = n := by omega
        have e2 : j - 8 * n = j % 8 := by omega
        have e3 : j % 8 < 64 := by omega
        simp [h1, h2, hj, e1, e2, e3]
      · have e4 : (l.getD (a + n) 0).toNat.testBit (j - 8 * n) = false := by
          apply Nat.testBit_lt_two_pow
          have : (2:Nat) ^ 8 ≤ 2 ^ (j - 8 * n) := Nat.pow_le_pow_right (by decide) (by omega)
          omega
        rw [e4]
        simp [h1, h2]
theorem st_bytes {l : List Int} (hl : isBytes l) (a : Nat) (v : BitVec 64) : ∀ i, isBytes (st l a v i)
  | 0 => hl
  | i + 1 => fun x hx => by
    unfold st at hx
    rcases List.mem_or_eq_of_mem_set hx with h | h
    · exact st_bytes hl a v i x h
    · subst h; exact byteOf_range v i
end Go.Proofs.YtcgkgaibomcheaaGreat.Bits
end

section
namespace Go.Proofs.YtcgkgaibomcheaaGreat.F1
open Go.RowKit PRvemuRuns Bits YtcgkgaibomcheaaGreatW.PrintWords YtcgkgaibomcheaaGreatW.PrintLast YtcgkgaibomcheaaGreatW.PrintMore
theorem wrapU_in (z : Int) (h0 : 0 ≤ z) (h : z < 18446744073709551616) : IntKind.u64.wrap z = z := by
  simp only [IntKind.wrap, IntKind.bits, IntKind.signed, Bool.false_and, Bool.false_eq_true, if_false]
  omega
theorem byteU {x : Int} (h : 0 ≤ x ∧ x < 256) : IntKind.u64.wrap x = U (BitVec.ofNat 64 x.toNat) := by
  rw [wrapU_in x h.1 (by omega)]
  unfold U
  rw [BitVec.toNat_ofNat, Nat.mod_eq_of_lt (by omega)]
  omega
theorem rd_getD (l : List Int) (i : Nat) : rd l (i : Int) = l.getD i 0 := by
  unfold rd
  rw [Int.toNat_natCast]
def ok (l : List Int) (a n : Int) : Prop := 1 ≤ n ∧ n ≤ 8 ∧ 0 ≤ a ∧ a + n ≤ l.length
theorem there_yes (l : List Int) (_hl : l.length ≤ 1000000000000000) (a n : Int) (h : ok l a n) : word_there.f l a n = some true := by
  obtain ⟨h1, h2, h3, h4⟩ := h
  unfold word_there.f
  rw [if_pos (by omega), if_pos (by omega), if_pos (by omega), if_pos (by omega)]
  have : n ≤ wrap64 ((l.length : Int) - a) := by unfold wrap64; omega
  simp [this]
theorem there_no (l : List Int) (_hl : l.length ≤ 1000000000000000) (a n : Int) (h : ¬ ok l a n) : word_there.f l a n = some false := by
  unfold word_there.f
  by_cases h1 : n ≥ 1
  · rw [if_pos h1]
    by_cases h2 : n ≤ 8
    · rw [if_pos h2]
      by_cases h3 : a ≥ 0
      · rw [if_pos h3]
        by_cases h4 : a ≤ (l.length : Int)
        · rw [if_pos h4]
          have : ¬ n ≤ wrap64 ((l.length : Int) - a) := by
            unfold ok at h
            unfold wrap64
            omega
          simp [this]
        · rw [if_neg h4]
      · rw [if_neg h3]
    · rw [if_neg h2]
  · rw [if_neg h1]
theorem word_mask_eq (n : Int) : word_mask.f n = some (U (low n)) := by
  unfold word_mask.f
  by_cases h : n < 1
  · rw [if_pos h]
    have : n.toNat = 0 := by omega
    unfold low
    rw [this]
    rfl
  · rw [if_neg h]
    by_cases h2 : n > 63
    · rw [if_pos h2]
      unfold low
      rw [Nat.min_eq_right (by omega)]
      rfl
    · rw [if_neg h2, if_pos (by omega), low_one n (by omega) (by omega)]
theorem word_Zext_eq (v : BitVec 64) (n : Int) : word_Zext.f (U v) n = some (U (zx v n)) := by
  unfold word_Zext.f
  rw [word_mask_eq]
  simp only [Option.bind_some]
  rw [and_U]
  rfl
theorem word_Bits_eq (v : BitVec 64) (lo n : Int) : word_Bits.f (U v) lo n = some (U (bs v lo n)) := by
  unfold word_Bits.f bs
  by_cases h : lo < 0
  · rw [if_pos h, if_pos h]; rfl
  · rw [if_neg h, if_neg h]
    by_cases h2 : lo > 63
    · rw [if_pos h2, if_pos h2]; rfl
    · rw [if_neg h2, if_neg h2, if_pos (by omega), shr_U, word_Zext_eq]
      rfl
theorem word_Sext_eq (v : BitVec 64) (n : Int) : word_Sext.f (U v) n = some (sx v n).toInt := by
  unfold word_Sext.f
  by_cases h : n < 1
  · rw [if_pos h, sx_none v n h]; rfl
  · rw [if_neg h]
    have e : wrap64 (64 - mn n 64) = ((64 - min n.toNat 64 : Nat) : Int) := by
      unfold wrap64 mn
      split <;> omega
    rw [e, if_pos (by omega), shl_U, wrap64_U, sar_U _ _ (by omega)]
    unfold sx
    rw [if_neg h]
    rfl
theorem bit_eq (v : BitVec 64) (i : Int) (h0 : 0 ≤ i) (h : i ≤ 63) : ravelinref01_bit.f (U v) i = some (U ((v >>> i.toNat) &&& 1#64)) := by
  unfold ravelinref01_bit.f
  have e : IntKind.u64.wrap i = i := by
    simp only [IntKind.wrap, IntKind.bits, IntKind.signed, Bool.false_and, Bool.false_eq_true, if_false]
    omega
  rw [e, if_pos h0, shr_U]
  have e1 : (1 : Int) = U 1#64 := by decide
  rw [e1, and_U]
theorem wrapU_small (i : Int) (h0 : 0 ≤ i) (h : i ≤ 64) : IntKind.u64.wrap i = i := by
  simp only [IntKind.wrap, IntKind.bits, IntKind.signed, Bool.false_and, Bool.false_eq_true, if_false]
  omega
theorem wrap64_small (i : Int) (h0 : -1000 ≤ i) (h : i ≤ 1000) : wrap64 i = i := by
  unfold wrap64
  omega
theorem ref_Zext_loop (v : BitVec 64) (n : Int) (d : Nat) : ∀ (k : Nat) (i : Nat) (out : BitVec 64), i ≤ 64 → 64 - i = d → d < k →
    (∀ j, j < 64 → out.getLsbD j = (decide (j < i ∧ (j : Int) < n) && v.getLsbD j)) →
    ravelinref01_Zext.l0 k (U v) n (U out) i = some (U (zx v n)) := by
  induction d with
  | zero =>
    intro k i out hi hd hk hout
    obtain ⟨k, rfl⟩ : ∃ m, k = m + 1 := ⟨k - 1, by omega⟩
    simp only [ravelinref01_Zext.l0]
    have hz : out = zx v n := ext64 fun j hj => by
      rw [hout j hj, zx_at v n j hj]
      congr 1
      simp only [decide_eq_decide]
      omega
    rw [hz]
    split
    · rw [if_neg (by omega)]
    · rfl
  | succ d ih =>
    intro k i out hi hd hk hout
    obtain ⟨k, rfl⟩ : ∃ m, k = m + 1 := ⟨k - 1, by omega⟩
    simp only [ravelinref01_Zext.l0]
    by_cases hlt : (i : Int) < n
    · rw [if_pos hlt, if_pos (by omega), bit_eq v i (by omega) (by omega)]
      simp only [Option.bind_some]
      rw [wrapU_small _ (by omega) (by omega), if_pos (by omega), shl_U, or_U, wrap64_small _ (by omega) (by omega)]
      refine ih k (i + 1) _ (by omega) (by omega) (by omega) fun j hj => ?_
      rw [BitVec.getLsbD_or, hout j hj, bit_at _ _ _ _ hj]
      by_cases e : j = i
      · subst e
        have a2 : j < j + 1 ∧ (j : Int) < n := by omega
        simp [a2]
      · have a1 : (j < i ∧ (j : Int) < n) ↔ (j < i + 1 ∧ (j : Int) < n) := by omega
        simp [e, a1]
    · rw [if_neg hlt]
      have hz : out = zx v n := ext64 fun j hj => by
        rw [hout j hj, zx_at v n j hj]
        congr 1
        simp only [decide_eq_decide]
        omega
      rw [hz]
theorem ref_Zext_eq (k : Nat) (hk : 65 ≤ k) (v : BitVec 64) (n : Int) : ravelinref01_Zext.f k (U v) n = some (U (zx v n)) := by
  unfold ravelinref01_Zext.f
  exact ref_Zext_loop v n 64 k 0 0#64 (by omega) (by omega) (by omega) fun j _ => by simp
theorem ref_Sext_loop (v : BitVec 64) (n : Int) (h1 : 1 ≤ n) (h2 : n ≤ 63) (d : Nat) : ∀ (k : Nat) (i : Nat) (out : BitVec 64), i ≤ 64 → n ≤ i → 64 - i = d → d < k →
    (∀ j, j < 64 → out.getLsbD j = (decide (j < i) && v.getLsbD (if (j : Int) < n then j else n.toNat - 1))) →
    ravelinref01_Sext.l0 k (U v) n (U out) i = some (sx v n).toInt := by
  induction d with
  | zero =>
    intro k i out hi hn hd hk hout
    obtain ⟨k, rfl⟩ : ∃ m, k = m + 1 := ⟨k - 1, by omega⟩
    simp only [ravelinref01_Sext.l0]
    have hz : out = sx v n := ext64 fun j hj => by
      rw [hout j hj, sx_at v n h1 (by omega) j hj]
      have : j < i := by omega
      simp [this]
    rw [hz, if_neg (by omega), wrap64_U]
  | succ d ih =>
    intro k i out hi hn hd hk hout
    obtain ⟨k, rfl⟩ : ∃ m, k = m + 1 := ⟨k - 1, by omega⟩
    simp only [ravelinref01_Sext.l0]
    rw [if_pos (by omega), wrap64_small (n - 1) (by omega) (by omega), bit_eq v (n - 1) (by omega) (by omega)]
    simp only [Option.bind_some]
    rw [wrapU_small _ (by omega) (by omega), if_pos (by omega), shl_U, or_U, wrap64_small _ (by omega) (by omega)]
    refine ih k (i + 1) _ (by omega) (by omega) (by omega) (by omega) fun j hj => ?_
    rw [BitVec.getLsbD_or, hout j hj, bit_at _ _ _ _ hj]
    have en : (n - 1).toNat = n.toNat - 1 := by omega
    by_cases e : j = i
    · subst e
      have a0 : ¬ (j : Int) < n := by omega
      simp [a0, en]
    · have a1 : (j < i) ↔ (j < i + 1) := by omega
      simp [e, a1]
theorem ref_Sext_eq (k : Nat) (hk : 65 ≤ k) (v : BitVec 64) (n : Int) : ravelinref01_Sext.f k (U v) n = some (sx v n).toInt := by
  unfold ravelinref01_Sext.f
  by_cases h : n < 1
  · rw [if_pos h, sx_none v n h]; rfl
  · rw [if_neg h]
    by_cases h2 : n ≥ 64
    · rw [if_pos h2, sx_full v n h2, wrap64_U]
    · rw [if_neg h2, ref_Zext_eq k hk]
      simp only [Option.bind_some]
      obtain ⟨m, rfl⟩ : ∃ m : Nat, n = m := ⟨n.toNat, by omega⟩
      refine ref_Sext_loop v m (by omega) (by omega) (64 - m) k m _ (by omega) (by omega) (by omega) (by omega) fun j hj => ?_
      rw [zx_at _ _ _ hj]
      by_cases e : j < m
      · have : (j : Int) < m := by omega
        simp [e]
      · have : ¬ (j : Int) < m := by omega
        simp [e]
theorem ref_Bits_loop (v : BitVec 64) (lo n : Int) (hl0 : 0 ≤ lo) (hl1 : lo ≤ 63) (d : Nat) : ∀ (k : Nat) (i : Nat) (out : BitVec 64), lo + i ≤ 64 → 64 - (lo + i) = d → d < k →
    (∀ j, j < 64 → out.getLsbD j = (decide (j < i ∧ (j : Int) < n) && v.getLsbD (lo.toNat + j))) →
    ravelinref01_Bits.l0 k (U v) lo n (U out) i = some (U (bs v lo n)) := by
  induction d with
  | zero =>
    intro k i out hi hd hk hout
    obtain ⟨k, rfl⟩ : ∃ m, k = m + 1 := ⟨k - 1, by omega⟩
    simp only [ravelinref01_Bits.l0]
    have hz : out = bs v lo n := ext64 fun j hj => by
      rw [hout j hj, bs_at v lo n hl0 hl1 j hj]
      by_cases h : j < i
      · simp [h]
      · have : v.getLsbD (lo.toNat + j) = false := BitVec.getLsbD_of_ge _ _ (by omega)
        simp [this]
    rw [hz, wrap64_small _ (by omega) (by omega)]
    split
    · rw [if_neg (by omega)]
    · rfl
  | succ d ih =>
    intro k i out hi hd hk hout
    obtain ⟨k, rfl⟩ : ∃ m, k = m + 1 := ⟨k - 1, by omega⟩
    simp only [ravelinref01_Bits.l0]
    by_cases hlt : (i : Int) < n
    · rw [if_pos hlt, wrap64_small (lo + i) (by omega) (by omega), if_pos (by omega), bit_eq v (lo + i) (by omega) (by omega)]
      simp only [Option.bind_some]
      rw [wrapU_small _ (by omega) (by omega), if_pos (by omega), shl_U, or_U, wrap64_small _ (by omega) (by omega)]
      refine ih k (i + 1) _ (by omega) (by omega) (by omega) fun j hj => ?_
      rw [BitVec.getLsbD_or, hout j hj, bit_at _ _ _ _ hj]
      have en : (lo + (i : Int)).toNat = lo.toNat + i := by omega
      by_cases e : j = i
      · subst e
        have a2 : j < j + 1 ∧ (j : Int) < n := by omega
        simp [a2, en]
      · have a1 : (j < i ∧ (j : Int) < n) ↔ (j < i + 1 ∧ (j : Int) < n) := by omega
        simp [e, a1]
    · rw [if_neg hlt]
      have hz : out = bs v lo n := ext64 fun j hj => by
        rw [hout j hj, bs_at v lo n hl0 hl1 j hj]
        congr 1
        simp only [decide_eq_decide]
        omega
      rw [hz]
theorem ref_Bits_eq (k : Nat) (hk : 70 ≤ k) (v : BitVec 64) (lo n : Int) : ravelinref01_Bits.f k (U v) lo n = some (U (bs v lo n)) := by
  obtain ⟨k, rfl⟩ : ∃ m, k = m + 1 := ⟨k - 1, by omega⟩
  unfold ravelinref01_Bits.f
  simp only [ravelinref01_Bits.j0]
  by_cases h : lo < 0
  · rw [if_pos h]; unfold bs; rw [if_pos h]; rfl
  · rw [if_neg h]
    by_cases h2 : lo > 63
    · rw [if_pos h2]; unfold bs; rw [if_neg h, if_pos h2]; rfl
    · rw [if_neg h2]
      by_cases h3 : n < 1
      · simp only [h3, decide_true, if_true]
        have : bs v lo n = 0#64 := ext64 fun j hj => by
          rw [bs_at v lo n (by omega) (by omega) j hj]
          have : ¬ (j : Int) < n := by omega
          simp [this]
        rw [this]; rfl
      · simp only [h3, decide_false, Bool.false_eq_true, if_false]
        exact ref_Bits_loop v lo n (by omega) (by omega) (64 - lo).toNat k 0 0#64 (by omega) (by omega) (by omega) fun j _ => by simp
theorem word_Load_loop (l : List Int) (_hl : l.length ≤ 1000000000000000) (hb : isBytes l) (a n : Nat) (hn : n ≤ 8) (ha : a + n ≤ l.length) (d : Nat) : ∀ (k i : Nat), i ≤ n → n - i = d → d < k →
    word_Load.l0 k l a (U (ld l a i)) n i = some (U (ld l a n), 0) := by
  induction d with
  | zero =>
    intro k i hi hd hk
    obtain ⟨k, rfl⟩ : ∃ m, k = m + 1 := ⟨k - 1, by omega⟩
    obtain rfl : i = n := by omega
    simp only [word_Load.l0]
    rw [if_neg (by omega)]
  | succ d ih =>
    intro k i hi hd hk
    obtain ⟨k, rfl⟩ : ∃ m, k = m + 1 := ⟨k - 1, by omega⟩
    simp only [word_Load.l0]
    have e1 : wrap64 (8 * (i : Int)) = ((8 * i : Nat) : Int) := by unfold wrap64; omega
    have e2 : wrap64 ((a : Int) + i) = ((a + i : Nat) : Int) := by unfold wrap64; omega
    have e3 : wrap64 ((i : Int) + 1) = ((i + 1 : Nat) : Int) := by unfold wrap64; omega
    rw [e1, e2, e3, if_pos (by omega), if_pos (by omega), if_pos (by omega), if_pos (by omega), rd_getD, byteU (isBytes_at hb _), shl_U, or_U, Int.toNat_natCast]
    exact ih k (i + 1) (by omega) (by omega) (by omega)
theorem word_Load_yes (k : Nat) (hk : 20 ≤ k) (l : List Int) (hl : l.length ≤ 1000000000000000) (hb : isBytes l) (a n : Int) (h : ok l a n) : word_Load.f k l a n = some (U (ld l a.toNat n.toNat), 0) := by
  unfold word_Load.f
  rw [there_yes l hl a n h]
  simp only [Option.bind_some, if_true]
  obtain ⟨h1, h2, h3, h4⟩ := h
  have := word_Load_loop l hl hb a.toNat n.toNat (by omega) (by omega) n.toNat k 0 (by omega) (by omega) (by omega)
  have ea : ((a.toNat : Nat) : Int) = a := by omega
  have en : ((n.toNat : Nat) : Int) = n := by omega
  rw [ea, en] at this
  exact this
theorem word_Load_no (k : Nat) (l : List Int) (hl : l.length ≤ 1000000000000000) (a n : Int) (h : ¬ ok l a n) : word_Load.f k l a n = some (0, 1) := by
  unfold word_Load.f
  rw [there_no l hl a n h]
  simp
theorem wrapU_shift (x : BitVec 64) : IntKind.u64.wrap (U x * 256) = U (x <<< 8) := by
  have h := shl_U x 8
  unfold shl at h
  exact h
theorem ref_Load_loop (l : List Int) (_hl : l.length ≤ 1000000000000000) (hb : isBytes l) (a n : Nat) (hn : n ≤ 8) (ha : a + n ≤ l.length) (d : Nat) : ∀ (k : Nat) (i : Nat) (out : BitVec 64), i ≤ n → i = d → d < k →
    (∀ j, j < 64 → out.getLsbD j = (decide (j < 8 * (n - i)) && (l.getD (a + i + j / 8) 0).toNat.testBit (j % 8))) →
    ravelinref01_Load.l0 k l a (U out) ((i : Int) - 1) = some (U (ld l a n), 0) := by
  induction d with
  | zero =>
    intro k i out hi hd hk hout
    obtain ⟨k, rfl⟩ : ∃ m, k = m + 1 := ⟨k - 1, by omega⟩
    subst hd
    simp only [ravelinref01_Load.l0]
    rw [if_neg (by omega)]
    have : out = ld l a n := ext64 fun j hj => by
      rw [hout j hj, ld_at hb a n j hj]
      rfl
    rw [this]
  | succ d ih =>
    intro k i out hi hd hk hout
    obtain ⟨k, rfl⟩ : ∃ m, k = m + 1 := ⟨k - 1, by omega⟩
    subst hd
    simp only [ravelinref01_Load.l0]
    have e0 : ((d + 1 : Nat) : Int) - 1 = (d : Int) := by omega
    have e1 : wrap64 ((a : Int) + (d : Int)) = ((a + d : Nat) : Int) := by unfold wrap64; omega
    have e2 : wrap64 ((d : Int) - 1) = (d : Int) - 1 := by unfold wrap64; omega
    have hx := isBytes_at hb (a + d)
    rw [e0, e1, e2, if_pos (by omega), if_pos (by omega), if_pos (by omega), rd_getD, byteU hx, wrapU_shift, or_U]
    refine ih k d _ (by omega) rfl (by omega) fun j hj => ?_
    rw [BitVec.getLsbD_or, BitVec.getLsbD_shiftLeft, BitVec.getLsbD_ofNat]
    by_cases h8 : j < 8
    · have e3 : j / 8 = 0 := by omega
      have e4 : j % 8 = j := by omega
      have e5 : j < 8 * (n - d) := by omega
      simp [h8, hj, e3, e4, e5]
    · have hlt : j - 8 < 64 := by omega
      rw [hout (j - 8) hlt]
      have e3 : (j - 8) / 8 = j / 8 - 1 := by omega
      have e4 : (j - 8) % 8 = j % 8 := by omega
      have e5 : (j - 8 < 8 * (n - (d + 1))) = (j < 8 * (n - d)) := by apply propext; omega
      have e6 : a + (d + 1) + (j / 8 - 1) = a + d + j / 8 := by omega
      have e7 : (l.getD (a + d) 0).toNat.testBit j = false := by
        apply Nat.testBit_lt_two_pow
        have : (2:Nat) ^ 8 ≤ 2 ^ j := Nat.pow_le_pow_right (by decide) (by omega)
        omega
      rw [e3, e4, e6, e7]
      simp [h8, hj, e5]
theorem ref_Load_yes (k : Nat) (hk : 20 ≤ k) (l : List Int) (hl : l.length ≤ 1000000000000000) (hb : isBytes l) (a n : Int) (h : ok l a n) : ravelinref01_Load.f k l a n = some (U (ld l a.toNat n.toNat), 0) := by
  obtain ⟨k, rfl⟩ : ∃ m, k = m + 1 := ⟨k - 1, by omega⟩
  obtain ⟨h1, h2, h3, h4⟩ := h
  unfold ravelinref01_Load.f
  rw [if_neg (by omega), if_neg (by omega), if_neg (by omega), if_neg (by omega)]
  have e : ¬ n > wrap64 ((l.length : Int) - a) := by unfold wrap64; omega
  simp only [ravelinref01_Load.j0, e, decide_false, Bool.false_eq_true, if_false]
  have := ref_Load_loop l hl hb a.toNat n.toNat (by omega) (by omega) n.toNat k n.toNat 0#64 (by omega) rfl (by omega) fun j _ => by simp
  have ea : ((a.toNat : Nat) : Int) = a := by omega
  have en : ((n.toNat : Nat) : Int) = n := by omega
  rw [ea, en] at this
  have e2 : wrap64 (n - 1) = n - 1 := by unfold wrap64; omega
  rw [e2]
  exact this
theorem ref_Load_no (k : Nat) (hk : 20 ≤ k) (l : List Int) (hl : l.length ≤ 1000000000000000) (a n : Int) (h : ¬ ok l a n) : ravelinref01_Load.f k l a n = some (0, 1) := by
  obtain ⟨k, rfl⟩ : ∃ m, k = m + 1 := ⟨k - 1, by omega⟩
  unfold ravelinref01_Load.f
  simp only [ravelinref01_Load.j0]
  by_cases h1 : n < 1
  · rw [if_pos h1]; rfl
  · rw [if_neg h1]
    by_cases h2 : n > 8
    · rw [if_pos h2]; rfl
    · rw [if_neg h2]
      by_cases h3 : a < 0
      · rw [if_pos h3]; rfl
      · rw [if_neg h3]
        by_cases h4 : a > (l.length : Int)
        · rw [if_pos h4]; rfl
        · rw [if_neg h4]
          have : n > wrap64 ((l.length : Int) - a) := by
            unfold ok at h
            unfold wrap64
            omega
          simp [this]
theorem ref_Store_loop (l : List Int) (_hl : l.length ≤ 1000000000000000) (a n : Nat) (v : BitVec 64) (hn : n ≤ 8) (ha : a + n ≤ l.length) (d : Nat) : ∀ (k i : Nat), i ≤ n → n - i = d → d < k →
    ravelinref01_Store.l0 k a n (U v) (st l a v i) i = some (st l a v n, 0) := by
  induction d with
  | zero =>
    intro k i hi hd hk
    obtain ⟨k, rfl⟩ : ∃ m, k = m + 1 := ⟨k - 1, by omega⟩
    obtain rfl : i = n := by omega
    simp only [ravelinref01_Store.l0]
    rw [if_neg (by omega)]
  | succ d ih =>
    intro k i hi hd hk
    obtain ⟨k, rfl⟩ : ∃ m, k = m + 1 := ⟨k - 1, by omega⟩
    simp only [ravelinref01_Store.l0]
    have e1 : IntKind.u64.wrap (wrap64 (8 * (i : Int))) = ((8 * i : Nat) : Int) := by
      have : wrap64 (8 * (i : Int)) = ((8 * i : Nat) : Int) := by unfold wrap64; omega
      rw [this, wrapU_in _ (by omega) (by omega)]
    have e2 : wrap64 ((a : Int) + i) = ((a + i : Nat) : Int) := by unfold wrap64; omega
    have e3 : wrap64 ((i : Int) + 1) = ((i + 1 : Nat) : Int) := by unfold wrap64; omega
    have hlen := st_length l a v i
    rw [e1, e2, e3, if_pos (by omega), if_pos (by omega), if_pos (by omega), if_pos (by omega), shr_U]
    have e4 : U (v >>> ((8 * i : Nat) : Int).toNat) % 256 = Bits.byteOf v i := by
      unfold U Bits.byteOf
      rw [Int.toNat_natCast]
      omega
    rw [e4, Int.toNat_natCast]
    exact ih k (i + 1) (by omega) (by omega) (by omega)
theorem ref_Store_yes (k : Nat) (hk : 20 ≤ k) (l : List Int) (hl : l.length ≤ 1000000000000000) (hl2 : l.length < 140737488355328) (a n : Int) (v : BitVec 64) (h : ok l a n) : ravelinref01_Store.f k l a n (U v) = some (st l a.toNat v n.toNat, 0) := by
  obtain ⟨k, rfl⟩ : ∃ m, k = m + 1 := ⟨k - 1, by omega⟩
  obtain ⟨h1, h2, h3, h4⟩ := h
  unfold ravelinref01_Store.f
  simp only [Option.bind_some, List.nil_append, List.length_nil]
  rw [if_pos (by omega), if_neg (by omega), if_neg (by omega), if_neg (by omega), if_neg (by omega)]
  have e : ¬ n > wrap64 ((l.length : Int) - a) := by unfold wrap64; omega
  simp only [ravelinref01_Store.j0, e, decide_false, Bool.false_eq_true, if_false]
  have := ref_Store_loop l hl a.toNat n.toNat v (by omega) (by omega) n.toNat k 0 (by omega) (by omega) (by omega)
  have ea : ((a.toNat : Nat) : Int) = a := by omega
  have en : ((n.toNat : Nat) : Int) = n := by omega
  rw [ea, en] at this
  exact this
theorem loads (k : Nat) (hk : 20 ≤ k) (l : List Int) (hl : l.length ≤ 1000000000000000) (hb : isBytes l) (a n : Int) : ∃ r1 r2, word_Load.f k l a n = some (r1, r2) ∧ ravelinref01_Load.f k l a n = some (r1, r2) := by
  by_cases h : ok l a n
  · exact ⟨_, _, word_Load_yes k hk l hl hb a n h, ref_Load_yes k hk l hl hb a n h⟩
  · exact ⟨_, _, word_Load_no k l hl a n h, ref_Load_no k hk l hl a n h⟩
end Go.Proofs.YtcgkgaibomcheaaGreat.F1
end
