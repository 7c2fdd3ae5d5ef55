/- Joined out of this claim's texts: PRvemuRunsx7. Conditions: those of each theorem. -/
import Derived.Test.YtcgkgaibomcheaaGreatZC01
import Derived.Test.YtcgkgaibomcheaaGreatZC03
import Derived.Test.YtcgkgaibomcheaaGreatZC05
set_option linter.unusedVariables false
set_option linter.unusedSimpArgs false
section
namespace Go.Proofs.YtcgkgaibomcheaaGreat.PRvemuRuns
open Go.RowKit YtcgkgaibomcheaaGreatW.PrintWords YtcgkgaibomcheaaGreatW.PrintLast YtcgkgaibomcheaaGreatW.PrintMore
attribute [local go_sem] max2_int min2_int max_two min_two max_three min_three max_four min_four
def ravelinref16_filled.l0 : Nat → List Int → Int → List Int → Int → Option (List Int)
  | 0, _, _, _, _ => none
  | k + 1, x0, x1, x5, x6 => if x6 < x1 then (if x6 < (x0.length : Int) then (if 0 ≤ x6 then (if x6 < (x5.length : Int) then (ravelinref16_filled.l0 k x0 x1 (x5.set (x6 : Int).toNat (rd x0 x6)) (wrap64 (x6 + 1))) else (none)) else (none)) else (some x5)) else (some x5)
def ravelinref16_filled.f (k : Nat) (l0 : List Int) (a1 : Int) : Option (List Int) := if 0 ≤ a1 then (if (a1 : Int).toNat ≤ 281474976710656 then (ravelinref16_filled.l0 k l0 a1 (List.replicate (a1 : Int).toNat 0) 0) else (none)) else (none)
set_option maxHeartbeats 8000000 in
set_option maxRecDepth 100000 in
theorem ravelinref16_filled.calls (k : Nat) (A0 : Option Addr) (c0 : Nat) (l0 : List Int) (a1 : Int) (r : List Int) (w : World) (hr0 : Kd.C (Kd.int .u8) w A0 l0.length l0) (hc0 : l0.length ≤ c0) (h : ravelinref16_filled.f k l0 a1 = some r) :
    Calls Tryz.prog 36 #[.slice A0 l0.length c0, .int .i64 a1] w fun e w' => ∃ v0_ : Value, e = .returned (v0_) ∧ Kd.R (Kd.int .u8) 5 w' w.heap.size (fun _ => True) v0_ r ∧ Below w.heap.size w w' := by
  have HR0 := Aside0.mk hr0
  have HC0 := Aside0.mk hc0
  clear hr0 hc0
  have HB := Aside0.mk (Below.refl w.heap.size w)
  have H : (if 0 ≤ a1 then (if (a1 : Int).toNat ≤ 281474976710656 then (ravelinref16_filled.l0 k l0 a1 (List.replicate (a1 : Int).toNat 0) 0) else (none)) else (none)) = some r := h
  clear h
  by_cases c3 : 0 ≤ a1
  · rw [if_pos c3] at H
    have c3b0 := eq_true c3
    have c3b1 : decide (0 ≤ a1) = true := decide_eq_true c3
    clear c3
    by_cases c4 : (a1 : Int).toNat ≤ 281474976710656
    · rw [if_pos c4] at H
      have c4b0 := eq_true c4
      have c4b1 : decide ((a1 : Int).toNat ≤ 281474976710656) = true := decide_eq_true c4
      clear c4
      obtain ⟨y242, hy242⟩ : ∃ y_ : List Int, y_ = (List.replicate (a1 : Int).toNat 0) := ⟨_, rfl⟩
      replace H : (ravelinref16_filled.l0 k l0 a1 y242 0) = some r := by first | (rw [hy242]; with_reducible exact H) | (have H2_ := (Option.bind_some _ _).symm.trans H; rw [hy242]; with_reducible exact H2_) | (have H2_ := (Option.bind_some _ _).symm.trans H; with_reducible exact H2_) | with_reducible exact H | (rw [hy242]; exact H) | exact H
      have Ny242 := Aside0.mk hy242
      clear hy242
      have H' := Aside0.mk H
      clear H
      go_enter Tryz.func36, Tryz.ntmps36
      go_wp2_with (first | ((with_reducible refine gate_dst (N := 8) rfl ?_); (try (refine gate_guard (by rfl) ?_; dsimp only)); refine Kd.R_make (Kd.int .u8) _ 5 rfl (N := 8) rfl 22 _ _ rfl a1 rfl rfl Tryz.underlying22 (.int .u8 0) 1 info5 rfl (by decide) (by omega) 0 (ok := fun _ => True) (okp := fun _ => True) rfl (fun _ hk => hk) trivial (of_decide_eq_true (by first | (with_reducible assumption) | assumption)) (Nat.le_trans (Nat.mul_le_mul_right _ (of_decide_eq_true (by first | (with_reducible assumption) | assumption) : a1.toNat ≤ 281474976710656)) (by omega)) (Below.refl _ _) (Nat.le_refl _) ?_; intro v243 w5 ho6 hb hg_ hnew_; clear hg_ hnew_; (first | rw [← Ny242.out] at ho6 | (simp only [Int.reduceToNat] at ho6; rw [← Ny242.out] at ho6)); have n0_ := Aside0.mk (Kd.R_lower ho6 (below_size (by repeat (first | (with_reducible first | exact HB.out | apply below_alloc | apply pw_below_drewN | apply below_drew1) | exact HB.out)))); have n1_ := Aside0.mk (below_step (by repeat (first | (with_reducible first | exact HB.out | apply below_alloc | apply pw_below_drewN | apply below_drew1) | exact HB.out)) hb); clear HB; have HO244 := n0_; have HB := n1_; clear n0_ n1_; clear hb ho6))
      go_loopg [6] k (fun kq v6 w' => ∃ (x5_1 : List Int) (x6_1 : Int), v6 = .int .i64 x6_1 ∧ Aside0 (ravelinref16_filled.l0 kq l0 a1 x5_1 x6_1 = some r) ∧ Aside0 (kq ≤ k) ∧ Aside0 (Kd.R (Kd.int .u8) 5 w' w.heap.size (fun _ => True) v243 x5_1) ∧ Aside0 (Below w.heap.size w w'))
      case atStart => exact ⟨(y242), (0), (by first | rfl | (simp; done) | (simp [*]; done)), H', ⟨Nat.le_refl _⟩, ⟨by (with_reducible repeat (first | apply Kd.R_alloc | apply Kd.R_drewN | apply Kd.R_drew)); exact HO244.out⟩, ⟨by repeat (first | (with_reducible first | exact HB.out | apply below_alloc | apply pw_below_drewN | apply below_drew1) | exact HB.out)⟩⟩
      case round =>
        clear H'
        try clear p2
        try clear c3
        try clear c3b0
        try clear c3b1
        try clear c4
        try clear c4b0
        try clear c4b1
        obtain ⟨x5_1, x6_1, rfl, HA, HK1, HO_5, HB⟩ := hrel
        cases gk with
        | zero => exact absurd HA.out (by simp [ravelinref16_filled.l0])
        | succ k1 =>
          have H := HA.out
          clear HA
          simp only [ravelinref16_filled.l0] at H
          by_cases c7 : x6_1 < a1
          · rw [if_pos c7] at H
            have c7b0 : decide (x6_1 < a1) = true := decide_eq_true c7
            clear c7
            by_cases c8 : x6_1 < (l0.length : Int)
            · rw [if_pos c8] at H
              have c8b0 : decide (x6_1 < (l0.length : Int)) = true := decide_eq_true c8
              clear c8
              by_cases c9 : 0 ≤ x6_1
              · rw [if_pos c9] at H
                have c9b0 : decide (0 ≤ x6_1) = true := decide_eq_true c9
                clear c9
                by_cases c10 : x6_1 < (x5_1.length : Int)
                · rw [if_pos c10] at H
                  have c10b0 : decide (x6_1 < (x5_1.length : Int)) = true := decide_eq_true c10
                  clear c10
                  obtain ⟨y246, hy246⟩ : ∃ y_ : List Int, y_ = (x5_1.set (x6_1 : Int).toNat (rd l0 x6_1)) := ⟨_, rfl⟩
                  replace H : (ravelinref16_filled.l0 k1 l0 a1 y246 (wrap64 (x6_1 + 1))) = some r := by first | (rw [hy246]; with_reducible exact H) | (have H2_ := (Option.bind_some _ _).symm.trans H; rw [hy246]; with_reducible exact H2_) | (have H2_ := (Option.bind_some _ _).symm.trans H; with_reducible exact H2_) | with_reducible exact H | (rw [hy246]; exact H) | exact H
                  have Ny246 := Aside0.mk hy246
                  clear hy246
                  have H' := Aside0.mk H
                  clear H
                  have p245 : 0 ≤ (x6_1 : Int) := of_decide_eq_true (by first | (with_reducible assumption) | assumption)
                  have q245 : x6_1 < (l0.length : Int) := of_decide_eq_true (by first | (with_reducible assumption) | assumption)
                  obtain ⟨ad245, e245, hx245_0⟩ := Kd.at_int HR0.out x6_1 p245 q245
                  cases e245
                  replace hx245_0 := (HB.out.cell (World.block_lt_of_cell? w _ hx245_0)).trans hx245_0
                  replace p245 := eq_true p245
                  replace q245 := eq_true q245
                  have p11 : 0 ≤ (x6_1 : Int) := of_decide_eq_true (by first | (with_reducible assumption) | assumption)
                  have q11 : (x6_1 : Int) < ((x5_1.length : Int) : Int) := of_decide_eq_true (by first | (with_reducible assumption) | assumption)
                  obtain ⟨go11, co11, eo11, gb11, gl11, cl11, HG11⟩ := Kd.R_form HO_5.out (by omega)
                  (first | cases eo11 | (injection eo11 with ea_ en_ ec_; (first | subst ea_ | (injection ea_ with ea_; subst ea_)); subst ec_; clear en_))
                  have GB11 := Aside0.mk gb11
                  have GG11 := Aside0.mk HG11
                  clear gb11 gl11 HG11
                  obtain ⟨hx11_0, hf11_0⟩ := Kd.R_celln 0 HO_5.out (x6_1 : Int) p11 q11
                  replace p11 := eq_true p11
                  replace q11 := eq_true q11
                  have HP12 := Kd.R_putg HO_5.out (x6_1 : Int) (rd l0 x6_1)
                  go_wp2_with (first | ((with_reducible refine gate_store (t := 5) (p := 26) rfl ?_); refine store_event (t := 5) (p := 26) (v := ?vo_w13) (w1 := (wr.setCell ⟨go11, (x6_1 : Int).toNat, none⟩ (.int .u8 (rd l0 x6_1)))) ?hg ?ho ?hn ?hr ?_; (case ho => rfl); (case hg => rfl); (case hn => rfl); (case hr => first | (go_simp; done) | (go_simp; rfl)); intro w13 hw; have hg : wr.grownBy w13 (some go11) := (by rw [hw]; exact HP12.2); have hp_ : Kd.R (Kd.int .u8) 5 w13 w.heap.size (fun _ => True) (.slice (some ⟨go11, 0, none⟩) x5_1.length co11) y246 := (by rw [hw, Ny246.out]; exact HP12.1); clear HP12; have n0_ := Aside0.mk (hp_); have n1_ := Aside0.mk ((by rw [hw]; exact below_set (HB.out) GB11.out : Below w.heap.size w w13)); clear HO_5; clear HB; have HO_5 := n0_; have HB := n1_; clear n0_ n1_; clear hg hw hp_))
                  go_roundg k1
                  case measure => have := HK1.out; omega
                  case rel => exact ⟨(y246), (wrap64 (x6_1 + 1)), (by first | rfl | (simp; done) | (simp [*]; done)), H', ⟨by have := HK1.out; omega⟩, ⟨by (with_reducible repeat (first | apply Kd.R_alloc | apply Kd.R_drewN | apply Kd.R_drew)); exact HO_5.out⟩, ⟨by repeat (first | (with_reducible first | exact HB.out | apply below_alloc | apply pw_below_drewN | apply below_drew1) | exact HB.out)⟩⟩
                · rw [if_neg c10] at H
                  exact absurd H (by simp)
              · rw [if_neg c9] at H
                exact absurd H (by simp)
            · rw [if_neg c8] at H
              have c8b0 : decide (x6_1 < (l0.length : Int)) = false := decide_eq_false c8
              clear c8
              obtain rfl := Option.some.inj H
              go_wp2
              go_ret
              exact ⟨_, by first | rfl | (simp [errW_none, errW_some] <;> rfl) | (simp [*, errW_none, errW_some] <;> rfl), by (with_reducible repeat (first | apply Kd.R_alloc | apply Kd.R_drewN | apply Kd.R_drew)); exact HO_5.out, by repeat (first | (with_reducible first | exact HB.out | apply below_alloc | apply pw_below_drewN | apply below_drew1) | exact HB.out)⟩
          · rw [if_neg c7] at H
            have c7b0 : decide (x6_1 < a1) = false := decide_eq_false c7
            clear c7
            obtain rfl := Option.some.inj H
            go_wp2
            go_ret
            exact ⟨_, by first | rfl | (simp [errW_none, errW_some] <;> rfl) | (simp [*, errW_none, errW_some] <;> rfl), by (with_reducible repeat (first | apply Kd.R_alloc | apply Kd.R_drewN | apply Kd.R_drew)); exact HO_5.out, by repeat (first | (with_reducible first | exact HB.out | apply below_alloc | apply pw_below_drewN | apply below_drew1) | exact HB.out)⟩
    · rw [if_neg c4] at H
      exact absurd H (by simp)
  · rw [if_neg c3] at H
    exact absurd H (by simp)
def ravelinref15_part.f (k : Nat) (a0 : Int) (a1 : Int) (a2 : Int) : Option (Int) := (ravelinref01_Bits.f k (IntKind.u64.wrap (a0)) a1 a2).bind fun t247 => (some (wrap64 (t247)))
set_option maxHeartbeats 8000000 in
set_option maxRecDepth 100000 in
theorem ravelinref15_part.calls (k : Nat) (a0 : Int) (a1 : Int) (a2 : Int) (r : Int) (w : World) (h : ravelinref15_part.f k a0 a1 a2 = some r) :
    Calls Tryz.prog 86 #[.int .u32 a0, .int .i64 a1, .int .i64 a2] w fun e w' => e = .returned (.int .i64 r) ∧ Drawn0 w w' := by
  have H : ((ravelinref01_Bits.f k (IntKind.u64.wrap (a0)) a1 a2).bind fun t247 => (some (wrap64 (t247)))) = some r := h
  clear h
  replace H := Option.bind_eq_some_iff.mp H
  obtain ⟨t247, A40, H⟩ := H
  replace H : (some (wrap64 (t247))) = some r := H
  have A4 := Aside0.mk A40
  clear A40
  obtain rfl := Option.some.inj H
  go_enter Tryz.func86, Tryz.ntmps86
  go_wp2_with (first | ((with_reducible refine gate_callee (f := 94) rfl ?_); refine goesL_ (some 11) rfl rfl Tryz.func94 (by kernel_rfl) rfl #[.int .u64 (IntKind.u64.wrap (a0)), .int .i64 a1, .int .i64 a2] rfl (by (try simp only [List.map_toArray, List.map_cons, List.map_nil]); first | done | rfl | (simp only [List.length_drop, List.length_take]; rfl)) ?_; (with_reducible refine (ravelinref01_Bits.calls k (IntKind.u64.wrap (a0)) a1 a2 t247 _ A4.out).mono ?_); rintro e w' ⟨rfl, ⟨nd, rfl⟩⟩; refine ⟨_, rfl, ?_⟩))
  go_ret
  exact ⟨by first | rfl | (simp; done) | (simp [*]; done), by repeat (first | exact Drawn0.refl _ | apply Drawn0.step)⟩
def ravelinref01_Zext.l0 : Nat → Int → Int → Int → Int → Option (Int)
  | 0, _, _, _, _ => none
  | k + 1, x0, x1, x5, x6 => if x6 < x1 then (if x6 < 64 then ((ravelinref01_bit.f x0 x6).bind fun t248 => (if 0 ≤ (IntKind.u64.wrap (x6)) then (ravelinref01_Zext.l0 k x0 x1 (Go.bits .or .u64 x5 (shl .u64 t248 (IntKind.u64.wrap (x6)))) (wrap64 (x6 + 1))) else (none))) else (some x5)) else (some x5)
def ravelinref01_Zext.f (k : Nat) (a0 : Int) (a1 : Int) : Option (Int) := ravelinref01_Zext.l0 k a0 a1 0 0
set_option maxHeartbeats 8000000 in
set_option maxRecDepth 100000 in
theorem ravelinref01_Zext.calls (k : Nat) (a0 : Int) (a1 : Int) (r : Int) (w : World) (h : ravelinref01_Zext.f k a0 a1 = some r) :
    Calls Tryz.prog 115 #[.int .u64 a0, .int .i64 a1] w fun e w' => e = .returned (.int .u64 r) ∧ Drawn0 w w' := by
  have H : (ravelinref01_Zext.l0 k a0 a1 0 0) = some r := h
  clear h
  have H' := Aside0.mk H
  clear H
  go_enter Tryz.func115, Tryz.ntmps115
  go_wp2
  go_loopg [5, 6] k (fun kq v5 v6 w' => ∃ (x5_1 : Int) (x6_1 : Int), v5 = .int .u64 x5_1 ∧ v6 = .int .i64 x6_1 ∧ Aside0 (ravelinref01_Zext.l0 kq a0 a1 x5_1 x6_1 = some r) ∧ Aside0 (kq ≤ k) ∧ Drawn0 w w')
  case atStart => exact ⟨(0), (0), (by first | rfl | (simp; done) | (simp [*]; done)), (by first | rfl | (simp; done) | (simp [*]; done)), H', ⟨Nat.le_refl _⟩, by repeat (first | exact Drawn0.refl _ | apply Drawn0.step)⟩
  case round =>
    clear H'
    try clear c1
    try clear p2
    obtain ⟨x5_1, x6_1, rfl, rfl, HA, HK1, ⟨m1, rfl⟩⟩ := hrel
    cases gk with
    | zero => exact absurd HA.out (by simp [ravelinref01_Zext.l0])
    | succ k1 =>
      have H := HA.out
      clear HA
      simp only [ravelinref01_Zext.l0] at H
      by_cases c3 : x6_1 < a1
      · rw [if_pos c3] at H
        have c3b0 : decide (x6_1 < a1) = true := decide_eq_true c3
        clear c3
        by_cases c4 : x6_1 < 64
        · rw [if_pos c4] at H
          have c4b0 : decide (x6_1 < 64) = true := decide_eq_true c4
          clear c4
          replace H := Option.bind_eq_some_iff.mp H
          obtain ⟨t248, A50, H⟩ := H
          replace H : (if 0 ≤ (IntKind.u64.wrap (x6_1)) then (ravelinref01_Zext.l0 k1 a0 a1 (Go.bits .or .u64 x5_1 (shl .u64 t248 (IntKind.u64.wrap (x6_1)))) (wrap64 (x6_1 + 1))) else (none)) = some r := H
          have A5 := Aside0.mk A50
          clear A50
          obtain ⟨ji6, hji6⟩ : ∃ j_ : Int, (IntKind.u64.wrap (x6_1)) = j_ := ⟨_, rfl⟩
          replace H : (if 0 ≤ (ji6) then (ravelinref01_Zext.l0 k1 a0 a1 (Go.bits .or .u64 x5_1 (shl .u64 t248 (ji6))) (wrap64 (x6_1 + 1))) else (none)) = some r := by first | (rw [hji6] at H; exact H) | (simp only [hji6] at H ⊢; exact H)
          (try rw [hji6] at A5)
          by_cases c7 : 0 ≤ (ji6)
          · rw [if_pos c7] at H
            have c7b0 := eq_true c7
            have c7b1 : decide (0 ≤ (ji6)) = true := decide_eq_true c7
            clear c7
            obtain ⟨ji8, hji8⟩ : ∃ j_ : Int, (shl .u64 t248 (ji6)) = j_ := ⟨_, rfl⟩
            replace H : (ravelinref01_Zext.l0 k1 a0 a1 (Go.bits .or .u64 x5_1 (ji8)) (wrap64 (x6_1 + 1))) = some r := by first | (rw [hji8] at H; exact H) | (simp only [hji8] at H ⊢; exact H)
            (try rw [hji8] at A5)
            have hji8_ : (IntKind.u64.wrap (t248 * 2 ^ min (ji6).toNat 64)) = ji8 := hji8
            have hji8z : (ji6) ≤ 64 → (IntKind.u64.wrap (t248 * 2 ^ (ji6).toNat)) = ji8 := shl_small hji8
            have H' := Aside0.mk H
            clear H
            go_wp2_with (first | ((with_reducible refine gate_callee (f := 109) rfl ?_); refine goesL_ (some 19) rfl rfl Tryz.func109 (by kernel_rfl) rfl #[.int .u64 a0, .int .i64 x6_1] rfl (by (try simp only [List.map_toArray, List.map_cons, List.map_nil]); first | done | rfl | (simp only [List.length_drop, List.length_take]; rfl)) ?_; (with_reducible refine (ravelinref01_bit.calls a0 x6_1 t248 _ A5.out).mono ?_); rintro e w' ⟨rfl, ⟨nd, rfl⟩⟩; refine ⟨_, rfl, ?_⟩))
            go_roundg k1
            case measure => have := HK1.out; omega
            case rel => exact ⟨(Go.bits .or .u64 x5_1 (ji8)), (wrap64 (x6_1 + 1)), (by first | rfl | (simp; done) | (simp only [← hji8] <;> (first | rfl | simp)) | (simp [*]; done)), (by first | rfl | (simp; done) | (simp [*]; done)), H', ⟨by have := HK1.out; omega⟩, by repeat (first | exact Drawn0.refl _ | apply Drawn0.step)⟩
          · rw [if_neg c7] at H
            exact absurd H (by simp)
        · rw [if_neg c4] at H
          have c4b0 : decide (x6_1 < 64) = false := decide_eq_false c4
          clear c4
          obtain rfl := Option.some.inj H
          go_wp2
          go_ret
          exact ⟨by first | rfl | (simp; done) | (simp [*]; done), by repeat (first | exact Drawn0.refl _ | apply Drawn0.step)⟩
      · rw [if_neg c3] at H
        have c3b0 : decide (x6_1 < a1) = false := decide_eq_false c3
        clear c3
        obtain rfl := Option.some.inj H
        go_wp2
        go_ret
        exact ⟨by first | rfl | (simp; done) | (simp [*]; done), by repeat (first | exact Drawn0.refl _ | apply Drawn0.step)⟩
def ravelinref01_Sext.l0 : Nat → Int → Int → Int → Int → Option (Int)
  | 0, _, _, _, _ => none
  | k + 1, x0, x1, x5, x6 => if x6 < 64 then ((ravelinref01_bit.f x0 (wrap64 (x1 - 1))).bind fun t250 => (if 0 ≤ (IntKind.u64.wrap (x6)) then (ravelinref01_Sext.l0 k x0 x1 (Go.bits .or .u64 x5 (shl .u64 t250 (IntKind.u64.wrap (x6)))) (wrap64 (x6 + 1))) else (none))) else (some (wrap64 (x5)))
def ravelinref01_Sext.f (k : Nat) (a0 : Int) (a1 : Int) : Option (Int) := if a1 < 1 then (some 0) else (if a1 ≥ 64 then (some (wrap64 (a0))) else ((ravelinref01_Zext.f k a0 a1).bind fun t249 => (ravelinref01_Sext.l0 k a0 a1 t249 a1)))
set_option maxHeartbeats 8000000 in
set_option maxRecDepth 100000 in
theorem ravelinref01_Sext.calls (k : Nat) (a0 : Int) (a1 : Int) (r : Int) (w : World) (h : ravelinref01_Sext.f k a0 a1 = some r) :
    Calls Tryz.prog 113 #[.int .u64 a0, .int .i64 a1] w fun e w' => e = .returned (.int .i64 r) ∧ Drawn0 w w' := by
  have H : (if a1 < 1 then (some 0) else (if a1 ≥ 64 then (some (wrap64 (a0))) else ((ravelinref01_Zext.f k a0 a1).bind fun t249 => (ravelinref01_Sext.l0 k a0 a1 t249 a1)))) = some r := h
  clear h
  by_cases c3 : a1 < 1
  · rw [if_pos c3] at H
    have c3b0 : decide (a1 < 1) = true := decide_eq_true c3
    clear c3
    obtain rfl := Option.some.inj H
    go_enter Tryz.func113, Tryz.ntmps113
    go_wp2
    go_ret
    exact ⟨by first | rfl | (simp; done) | (simp [*]; done), by repeat (first | exact Drawn0.refl _ | apply Drawn0.step)⟩
  · rw [if_neg c3] at H
    have c3b0 : decide (a1 < 1) = false := decide_eq_false c3
    clear c3
    by_cases c4 : a1 ≥ 64
    · rw [if_pos c4] at H
      have c4b0 : decide (64 ≤ a1) = true := decide_eq_true c4
      clear c4
      obtain rfl := Option.some.inj H
      go_enter Tryz.func113, Tryz.ntmps113
      go_wp2
      go_ret
      exact ⟨by first | rfl | (simp; done) | (simp [*]; done), by repeat (first | exact Drawn0.refl _ | apply Drawn0.step)⟩
    · rw [if_neg c4] at H
      have c4b0 : decide (64 ≤ a1) = false := decide_eq_false c4
      clear c4
      replace H := Option.bind_eq_some_iff.mp H
      obtain ⟨t249, A50, H⟩ := H
      replace H : (ravelinref01_Sext.l0 k a0 a1 t249 a1) = some r := H
      have A5 := Aside0.mk A50
      clear A50
      have H' := Aside0.mk H
      clear H
      go_enter Tryz.func113, Tryz.ntmps113
      go_wp2_with (first | ((with_reducible refine gate_callee (f := 115) rfl ?_); refine goesL_ (some 15) rfl rfl Tryz.func115 (by kernel_rfl) rfl #[.int .u64 a0, .int .i64 a1] rfl (by (try simp only [List.map_toArray, List.map_cons, List.map_nil]); first | done | rfl | (simp only [List.length_drop, List.length_take]; rfl)) ?_; (with_reducible refine (ravelinref01_Zext.calls k a0 a1 t249 _ A5.out).mono ?_); rintro e w' ⟨rfl, ⟨nd, rfl⟩⟩; refine ⟨_, rfl, ?_⟩))
      go_loopg [5, 6] k (fun kq v5 v6 w' => ∃ (x5_1 : Int) (x6_1 : Int), v5 = .int .u64 x5_1 ∧ v6 = .int .i64 x6_1 ∧ Aside0 (ravelinref01_Sext.l0 kq a0 a1 x5_1 x6_1 = some r) ∧ Aside0 (kq ≤ k) ∧ Drawn0 w w')
      case atStart => exact ⟨(t249), (a1), (by first | rfl | (simp; done) | (simp [*]; done)), (by first | rfl | (simp; done) | (simp [*]; done)), H', ⟨Nat.le_refl _⟩, by repeat (first | exact Drawn0.refl _ | apply Drawn0.step)⟩
      case round =>
        clear H'
        try clear c1
        try clear p2
        try clear c3
        try clear c3b0
        try clear c4
        try clear c4b0
        obtain ⟨x5_1, x6_1, rfl, rfl, HA, HK1, ⟨m1, rfl⟩⟩ := hrel
        cases gk with
        | zero => exact absurd HA.out (by simp [ravelinref01_Sext.l0])
        | succ k1 =>
          have H := HA.out
          clear HA
          simp only [ravelinref01_Sext.l0] at H
          by_cases c6 : x6_1 < 64
          · rw [if_pos c6] at H
            have c6b0 : decide (x6_1 < 64) = true := decide_eq_true c6
            clear c6
            replace H := Option.bind_eq_some_iff.mp H
            obtain ⟨t250, A70, H⟩ := H
            replace H : (if 0 ≤ (IntKind.u64.wrap (x6_1)) then (ravelinref01_Sext.l0 k1 a0 a1 (Go.bits .or .u64 x5_1 (shl .u64 t250 (IntKind.u64.wrap (x6_1)))) (wrap64 (x6_1 + 1))) else (none)) = some r := H
            have A7 := Aside0.mk A70
            clear A70
            obtain ⟨ji8, hji8⟩ : ∃ j_ : Int, (IntKind.u64.wrap (x6_1)) = j_ := ⟨_, rfl⟩
            replace H : (if 0 ≤ (ji8) then (ravelinref01_Sext.l0 k1 a0 a1 (Go.bits .or .u64 x5_1 (shl .u64 t250 (ji8))) (wrap64 (x6_1 + 1))) else (none)) = some r := by first | (rw [hji8] at H; exact H) | (simp only [hji8] at H ⊢; exact H)
            (try rw [hji8] at A7)
            by_cases c9 : 0 ≤ (ji8)
            · rw [if_pos c9] at H
              have c9b0 := eq_true c9
              have c9b1 : decide (0 ≤ (ji8)) = true := decide_eq_true c9
              clear c9
              obtain ⟨ji10, hji10⟩ : ∃ j_ : Int, (shl .u64 t250 (ji8)) = j_ := ⟨_, rfl⟩
              replace H : (ravelinref01_Sext.l0 k1 a0 a1 (Go.bits .or .u64 x5_1 (ji10)) (wrap64 (x6_1 + 1))) = some r := by first | (rw [hji10] at H; exact H) | (simp only [hji10] at H ⊢; exact H)
              (try rw [hji10] at A7)
              have hji10_ : (IntKind.u64.wrap (t250 * 2 ^ min (ji8).toNat 64)) = ji10 := hji10
              have hji10z : (ji8) ≤ 64 → (IntKind.u64.wrap (t250 * 2 ^ (ji8).toNat)) = ji10 := shl_small hji10
              have H' := Aside0.mk H
              clear H
              go_wp2_with (first | ((with_reducible refine gate_callee (f := 109) rfl ?_); refine goesL_ (some 25) rfl rfl Tryz.func109 (by kernel_rfl) rfl #[.int .u64 a0, .int .i64 (wrap64 (a1 - 1))] rfl (by (try simp only [List.map_toArray, List.map_cons, List.map_nil]); first | done | rfl | (simp only [List.length_drop, List.length_take]; rfl)) ?_; (with_reducible refine (ravelinref01_bit.calls a0 (wrap64 (a1 - 1)) t250 _ A7.out).mono ?_); rintro e w' ⟨rfl, ⟨nd, rfl⟩⟩; refine ⟨_, rfl, ?_⟩))
              go_roundg k1
              case measure => have := HK1.out; omega
              case rel => exact ⟨(Go.bits .or .u64 x5_1 (ji10)), (wrap64 (x6_1 + 1)), (by first | rfl | (simp; done) | (simp only [← hji10] <;> (first | rfl | simp)) | (simp [*]; done)), (by first | rfl | (simp; done) | (simp [*]; done)), H', ⟨by have := HK1.out; omega⟩, by repeat (first | exact Drawn0.refl _ | apply Drawn0.step)⟩
            · rw [if_neg c9] at H
              exact absurd H (by simp)
          · rw [if_neg c6] at H
            have c6b0 : decide (x6_1 < 64) = false := decide_eq_false c6
            clear c6
            obtain rfl := Option.some.inj H
            go_wp2
            go_ret
            exact ⟨by first | rfl | (simp; done) | (simp [*]; done), by repeat (first | exact Drawn0.refl _ | apply Drawn0.step)⟩
def ravelinref15_signed.f (k : Nat) (a0 : Int) (a1 : Int) : Option (Int) := (ravelinref01_Sext.f k (IntKind.u64.wrap (a0)) a1).bind fun t251 => (some t251)
set_option maxHeartbeats 8000000 in
set_option maxRecDepth 100000 in
theorem ravelinref15_signed.calls (k : Nat) (a0 : Int) (a1 : Int) (r : Int) (w : World) (h : ravelinref15_signed.f k a0 a1 = some r) :
    Calls Tryz.prog 105 #[.int .i64 a0, .int .i64 a1] w fun e w' => e = .returned (.int .i64 r) ∧ Drawn0 w w' := by
  have H : ((ravelinref01_Sext.f k (IntKind.u64.wrap (a0)) a1).bind fun t251 => (some t251)) = some r := h
  clear h
  replace H := Option.bind_eq_some_iff.mp H
  obtain ⟨t251, A30, H⟩ := H
  replace H : (some t251) = some r := H
  have A3 := Aside0.mk A30
  clear A30
  obtain rfl := Option.some.inj H
  go_enter Tryz.func105, Tryz.ntmps105
  go_wp2_with (first | ((with_reducible refine gate_callee (f := 113) rfl ?_); refine goesL_ (some 8) rfl rfl Tryz.func113 (by kernel_rfl) rfl #[.int .u64 (IntKind.u64.wrap (a0)), .int .i64 a1] rfl (by (try simp only [List.map_toArray, List.map_cons, List.map_nil]); first | done | rfl | (simp only [List.length_drop, List.length_take]; rfl)) ?_; (with_reducible refine (ravelinref01_Sext.calls k (IntKind.u64.wrap (a0)) a1 t251 _ A3.out).mono ?_); rintro e w' ⟨rfl, ⟨nd, rfl⟩⟩; refine ⟨_, rfl, ?_⟩))
  go_ret
  exact ⟨by first | rfl | (simp; done) | (simp [*]; done), by repeat (first | exact Drawn0.refl _ | apply Drawn0.step)⟩
def ravelinref15_take.f (k : Nat) (a0 : Int) (a1 : Int) : Option (Int) := if a0 = 1 then ((ravelinref15_part.f k a1 12 20).bind fun t252 => (some t252)) else (if a0 = 2 then ((ravelinref15_part.f k a1 20 12).bind fun t253 => ((ravelinref15_signed.f k t253 12).bind fun t254 => (some t254))) else (if a0 = 3 then ((ravelinref15_part.f k a1 20 6).bind fun t255 => (some t255)) else (if a0 = 4 then ((ravelinref15_part.f k a1 20 5).bind fun t256 => (some t256)) else (if a0 = 5 then ((ravelinref15_part.f k a1 7 5).bind fun t257 => ((ravelinref15_part.f k a1 25 7).bind fun t258 => ((ravelinref15_signed.f k (Go.bits .or .i64 t257 (wrap64 (t258 * 32))) 12).bind fun t259 => (some t259)))) else (if a0 = 7 then ((ravelinref15_part.f k a1 8 4).bind fun t260 => ((ravelinref15_part.f k a1 25 6).bind fun t261 => ((ravelinref15_part.f k a1 7 1).bind fun t262 => ((ravelinref15_part.f k a1 31 1).bind fun t263 => ((ravelinref15_signed.f k (Go.bits .or .i64 (Go.bits .or .i64 (Go.bits .or .i64 (wrap64 (t260 * 2)) (wrap64 (t261 * 32))) (wrap64 (t262 * 2048))) (wrap64 (t263 * 4096))) 13).bind fun t264 => (some t264)))))) else (if a0 = 8 then ((ravelinref15_part.f k a1 21 10).bind fun t265 => ((ravelinref15_part.f k a1 20 1).bind fun t266 => ((ravelinref15_part.f k a1 12 8).bind fun t267 => ((ravelinref15_part.f k a1 31 1).bind fun t268 => ((ravelinref15_signed.f k (Go.bits .or .i64 (Go.bits .or .i64 (Go.bits .or .i64 (wrap64 (t265 * 2)) (wrap64 (t266 * 2048))) (wrap64 (t267 * 4096))) (wrap64 (t268 * 1048576))) 21).bind fun t269 => (some t269)))))) else (some 0)))))))
set_option maxHeartbeats 8000000 in
set_option maxRecDepth 100000 in
theorem ravelinref15_take.calls (k : Nat) (a0 : Int) (a1 : Int) (r : Int) (w : World) (h : ravelinref15_take.f k a0 a1 = some r) :
    Calls Tryz.prog 87 #[.int .i64 a0, .int .u32 a1] w fun e w' => e = .returned (.int .i64 r) ∧ Drawn0 w w' := by
  have H : (if a0 = 1 then ((ravelinref15_part.f k a1 12 20).bind fun t252 => (some t252)) else (if a0 = 2 then ((ravelinref15_part.f k a1 20 12).bind fun t253 => ((ravelinref15_signed.f k t253 12).bind fun t254 => (some t254))) else (if a0 = 3 then ((ravelinref15_part.f k a1 20 6).bind fun t255 => (some t255)) else (if a0 = 4 then ((ravelinref15_part.f k a1 20 5).bind fun t256 => (some t256)) else (if a0 = 5 then ((ravelinref15_part.f k a1 7 5).bind fun t257 => ((ravelinref15_part.f k a1 25 7).bind fun t258 => ((ravelinref15_signed.f k (Go.bits .or .i64 t257 (wrap64 (t258 * 32))) 12).bind fun t259 => (some t259)))) else (if a0 = 7 then ((ravelinref15_part.f k a1 8 4).bind fun t260 => ((ravelinref15_part.f k a1 25 6).bind fun t261 => ((ravelinref15_part.f k a1 7 1).bind fun t262 => ((ravelinref15_part.f k a1 31 1).bind fun t263 => ((ravelinref15_signed.f k (Go.bits .or .i64 (Go.bits .or .i64 (Go.bits .or .i64 (wrap64 (t260 * 2)) (wrap64 (t261 * 32))) (wrap64 (t262 * 2048))) (wrap64 (t263 * 4096))) 13).bind fun t264 => (some t264)))))) else (if a0 = 8 then ((ravelinref15_part.f k a1 21 10).bind fun t265 => ((ravelinref15_part.f k a1 20 1).bind fun t266 => ((ravelinref15_part.f k a1 12 8).bind fun t267 => ((ravelinref15_part.f k a1 31 1).bind fun t268 => ((ravelinref15_signed.f k (Go.bits .or .i64 (Go.bits .or .i64 (Go.bits .or .i64 (wrap64 (t265 * 2)) (wrap64 (t266 * 2048))) (wrap64 (t267 * 4096))) (wrap64 (t268 * 1048576))) 21).bind fun t269 => (some t269)))))) else (some 0)))))))) = some r := h
  clear h
  by_cases c3 : a0 = 1
  · rw [if_pos c3] at H
    have c3b0 : (a0 == 1) = true := beq_iff_eq.mpr c3
    have c3b1 : (a0 != 1) = false := bne_eq_false_iff_eq.mpr c3
    clear c3
    replace H := Option.bind_eq_some_iff.mp H
    obtain ⟨t252, A40, H⟩ := H
    replace H : (some t252) = some r := H
    have A4 := Aside0.mk A40
    clear A40
    obtain rfl := Option.some.inj H
    go_enter Tryz.func87, Tryz.ntmps87
    go_wp2_with (first | ((with_reducible refine gate_callee (f := 86) rfl ?_); refine goesL_ (some 9) rfl rfl Tryz.func86 (by kernel_rfl) rfl #[.int .u32 a1, .int .i64 12, .int .i64 20] rfl (by (try simp only [List.map_toArray, List.map_cons, List.map_nil]); first | done | rfl | (simp only [List.length_drop, List.length_take]; rfl)) ?_; (with_reducible refine (ravelinref15_part.calls k a1 12 20 t252 _ A4.out).mono ?_); rintro e w' ⟨rfl, ⟨nd, rfl⟩⟩; refine ⟨_, rfl, ?_⟩))
    go_ret
    exact ⟨by first | rfl | (simp; done) | (simp [*]; done), by repeat (first | exact Drawn0.refl _ | apply Drawn0.step)⟩
  · rw [if_neg c3] at H
    have c3b0 : (a0 == 1) = false := beq_eq_false_iff_ne.mpr c3
    have c3b1 : (a0 != 1) = true := bne_iff_ne.mpr c3
    by_cases c5 : a0 = 2
    · rw [if_pos c5] at H
      have c5b0 : (a0 == 2) = true := beq_iff_eq.mpr c5
      have c5b1 : (a0 != 2) = false := bne_eq_false_iff_eq.mpr c5
      clear c5
      replace H := Option.bind_eq_some_iff.mp H
      obtain ⟨t253, A60, H⟩ := H
      replace H : ((ravelinref15_signed.f k t253 12).bind fun t254 => (some t254)) = some r := H
      have A6 := Aside0.mk A60
      clear A60
      replace H := Option.bind_eq_some_iff.mp H
      obtain ⟨t254, A70, H⟩ := H
      replace H : (some t254) = some r := H
      have A7 := Aside0.mk A70
      clear A70
      obtain rfl := Option.some.inj H
      go_enter Tryz.func87, Tryz.ntmps87
      go_wp2_with (first | ((with_reducible refine gate_callee (f := 86) rfl ?_); refine goesL_ (some 13) rfl rfl Tryz.func86 (by kernel_rfl) rfl #[.int .u32 a1, .int .i64 20, .int .i64 12] rfl (by (try simp only [List.map_toArray, List.map_cons, List.map_nil]); first | done | rfl | (simp only [List.length_drop, List.length_take]; rfl)) ?_; (with_reducible refine (ravelinref15_part.calls k a1 20 12 t253 _ A6.out).mono ?_); rintro e w' ⟨rfl, ⟨nd, rfl⟩⟩; refine ⟨_, rfl, ?_⟩) | ((with_reducible refine gate_callee (f := 105) rfl ?_); refine goesL_ (some 14) rfl rfl Tryz.func105 (by kernel_rfl) rfl #[.int .i64 t253, .int .i64 12] rfl (by (try simp only [List.map_toArray, List.map_cons, List.map_nil]); first | done | rfl | (simp only [List.length_drop, List.length_take]; rfl)) ?_; (with_reducible refine (ravelinref15_signed.calls k t253 12 t254 _ A7.out).mono ?_); rintro e w' ⟨rfl, ⟨nd, rfl⟩⟩; refine ⟨_, rfl, ?_⟩))
      go_ret
      exact ⟨by first | rfl | (simp; done) | (simp [*]; done), by repeat (first | exact Drawn0.refl _ | apply Drawn0.step)⟩
    · rw [if_neg c5] at H
      have c5b0 : (a0 == 2) = false := beq_eq_false_iff_ne.mpr c5
      have c5b1 : (a0 != 2) = true := bne_iff_ne.mpr c5
      by_cases c8 : a0 = 3
      · rw [if_pos c8] at H
        have c8b0 : (a0 == 3) = true := beq_iff_eq.mpr c8
        have c8b1 : (a0 != 3) = false := bne_eq_false_iff_eq.mpr c8
        clear c8
        replace H := Option.bind_eq_some_iff.mp H
        obtain ⟨t255, A90, H⟩ := H
        replace H : (some t255) = some r := H
        have A9 := Aside0.mk A90
        clear A90
        obtain rfl := Option.some.inj H
        go_enter Tryz.func87, Tryz.ntmps87
        go_wp2_with (first | ((with_reducible refine gate_callee (f := 86) rfl ?_); refine goesL_ (some 18) rfl rfl Tryz.func86 (by kernel_rfl) rfl #[.int .u32 a1, .int .i64 20, .int .i64 6] rfl (by (try simp only [List.map_toArray, List.map_cons, List.map_nil]); first | done | rfl | (simp only [List.length_drop, List.length_take]; rfl)) ?_; (with_reducible refine (ravelinref15_part.calls k a1 20 6 t255 _ A9.out).mono ?_); rintro e w' ⟨rfl, ⟨nd, rfl⟩⟩; refine ⟨_, rfl, ?_⟩))
        go_ret
        exact ⟨by first | rfl | (simp; done) | (simp [*]; done), by repeat (first | exact Drawn0.refl _ | apply Drawn0.step)⟩
      · rw [if_neg c8] at H
        have c8b0 : (a0 == 3) = false := beq_eq_false_iff_ne.mpr c8
        have c8b1 : (a0 != 3) = true := bne_iff_ne.mpr c8
        by_cases c10 : a0 = 4
        · rw [if_pos c10] at H
          have c10b0 : (a0 == 4) = true := beq_iff_eq.mpr c10
          have c10b1 : (a0 != 4) = false := bne_eq_false_iff_eq.mpr c10
          clear c10
          replace H := Option.bind_eq_some_iff.mp H
          obtain ⟨t256, A110, H⟩ := H
          replace H : (some t256) = some r := H
          have A11 := Aside0.mk A110
          clear A110
          obtain rfl := Option.some.inj H
          go_enter Tryz.func87, Tryz.ntmps87
          go_wp2_with (first | ((with_reducible refine gate_callee (f := 86) rfl ?_); refine goesL_ (some 22) rfl rfl Tryz.func86 (by kernel_rfl) rfl #[.int .u32 a1, .int .i64 20, .int .i64 5] rfl (by (try simp only [List.map_toArray, List.map_cons, List.map_nil]); first | done | rfl | (simp only [List.length_drop, List.length_take]; rfl)) ?_; (with_reducible refine (ravelinref15_part.calls k a1 20 5 t256 _ A11.out).mono ?_); rintro e w' ⟨rfl, ⟨nd, rfl⟩⟩; refine ⟨_, rfl, ?_⟩))
          go_ret
          exact ⟨by first | rfl | (simp; done) | (simp [*]; done), by repeat (first | exact Drawn0.refl _ | apply Drawn0.step)⟩
        · rw [if_neg c10] at H
          have c10b0 : (a0 == 4) = false := beq_eq_false_iff_ne.mpr c10
          have c10b1 : (a0 != 4) = true := bne_iff_ne.mpr c10
          by_cases c12 : a0 = 5
          · rw [if_pos c12] at H
            have c12b0 : (a0 == 5) = true := beq_iff_eq.mpr c12
            have c12b1 : (a0 != 5) = false := bne_eq_false_iff_eq.mpr c12
            clear c12
            replace H := Option.bind_eq_some_iff.mp H
            obtain ⟨t257, A130, H⟩ := H
            replace H : ((ravelinref15_part.f k a1 25 7).bind fun t258 => ((ravelinref15_signed.f k (Go.bits .or .i64 t257 (wrap64 (t258 * 32))) 12).bind fun t259 => (some t259))) = some r := H
            have A13 := Aside0.mk A130
            clear A130
            replace H := Option.bind_eq_some_iff.mp H
            obtain ⟨t258, A140, H⟩ := H
            replace H : ((ravelinref15_signed.f k (Go.bits .or .i64 t257 (wrap64 (t258 * 32))) 12).bind fun t259 => (some t259)) = some r := H
            have A14 := Aside0.mk A140
            clear A140
            replace H := Option.bind_eq_some_iff.mp H
            obtain ⟨t259, A150, H⟩ := H
            replace H : (some t259) = some r := H
            have A15 := Aside0.mk A150
            clear A150
            obtain rfl := Option.some.inj H
            go_enter Tryz.func87, Tryz.ntmps87
            go_wp2_with (first | ((with_reducible refine gate_callee (f := 86) rfl ?_); refine goesL_ (some 26) rfl rfl Tryz.func86 (by kernel_rfl) rfl #[.int .u32 a1, .int .i64 7, .int .i64 5] rfl (by (try simp only [List.map_toArray, List.map_cons, List.map_nil]); first | done | rfl | (simp only [List.length_drop, List.length_take]; rfl)) ?_; (with_reducible refine (ravelinref15_part.calls k a1 7 5 t257 _ A13.out).mono ?_); rintro e w' ⟨rfl, ⟨nd, rfl⟩⟩; refine ⟨_, rfl, ?_⟩) | ((with_reducible refine gate_callee (f := 86) rfl ?_); refine goesL_ (some 28) rfl rfl Tryz.func86 (by kernel_rfl) rfl #[.int .u32 a1, .int .i64 25, .int .i64 7] rfl (by (try simp only [List.map_toArray, List.map_cons, List.map_nil]); first | done | rfl | (simp only [List.length_drop, List.length_take]; rfl)) ?_; (with_reducible refine (ravelinref15_part.calls k a1 25 7 t258 _ A14.out).mono ?_); rintro e w' ⟨rfl, ⟨nd, rfl⟩⟩; refine ⟨_, rfl, ?_⟩) | ((with_reducible refine gate_callee (f := 105) rfl ?_); refine goesL_ (some 31) rfl rfl Tryz.func105 (by kernel_rfl) rfl #[.int .i64 (Go.bits .or .i64 t257 (wrap64 (t258 * 32))), .int .i64 12] rfl (by (try simp only [List.map_toArray, List.map_cons, List.map_nil]); first | done | rfl | (simp only [List.length_drop, List.length_take]; rfl)) ?_; (with_reducible refine (ravelinref15_signed.calls k (Go.bits .or .i64 t257 (wrap64 (t258 * 32))) 12 t259 _ A15.out).mono ?_); rintro e w' ⟨rfl, ⟨nd, rfl⟩⟩; refine ⟨_, rfl, ?_⟩))
            go_ret
            exact ⟨by first | rfl | (simp; done) | (simp [*]; done), by repeat (first | exact Drawn0.refl _ | apply Drawn0.step)⟩
          · rw [if_neg c12] at H
            have c12b0 : (a0 == 5) = false := beq_eq_false_iff_ne.mpr c12
            have c12b1 : (a0 != 5) = true := bne_iff_ne.mpr c12
            by_cases c16 : a0 = 7
            · rw [if_pos c16] at H
              have c16b0 : (a0 == 7) = true := beq_iff_eq.mpr c16
              have c16b1 : (a0 != 7) = false := bne_eq_false_iff_eq.mpr c16
              clear c16
              replace H := Option.bind_eq_some_iff.mp H
              obtain ⟨t260, A170, H⟩ := H
              replace H : ((ravelinref15_part.f k a1 25 6).bind fun t261 => ((ravelinref15_part.f k a1 7 1).bind fun t262 => ((ravelinref15_part.f k a1 31 1).bind fun t263 => ((ravelinref15_signed.f k (Go.bits .or .i64 (Go.bits .or .i64 (Go.bits .or .i64 (wrap64 (t260 * 2)) (wrap64 (t261 * 32))) (wrap64 (t262 * 2048))) (wrap64 (t263 * 4096))) 13).bind fun t264 => (some t264))))) = some r := H
              have A17 := Aside0.mk A170
              clear A170
              replace H := Option.bind_eq_some_iff.mp H
              obtain ⟨t261, A180, H⟩ := H
              replace H : ((ravelinref15_part.f k a1 7 1).bind fun t262 => ((ravelinref15_part.f k a1 31 1).bind fun t263 => ((ravelinref15_signed.f k (Go.bits .or .i64 (Go.bits .or .i64 (Go.bits .or .i64 (wrap64 (t260 * 2)) (wrap64 (t261 * 32))) (wrap64 (t262 * 2048))) (wrap64 (t263 * 4096))) 13).bind fun t264 => (some t264)))) = some r := H
              have A18 := Aside0.mk A180
              clear A180
              replace H := Option.bind_eq_some_iff.mp H
              obtain ⟨t262, A190, H⟩ := H
              replace H : ((ravelinref15_part.f k a1 31 1).bind fun t263 => ((ravelinref15_signed.f k (Go.bits .or .i64 (Go.bits .or .i64 (Go.bits .or .i64 (wrap64 (t260 * 2)) (wrap64 (t261 * 32))) (wrap64 (t262 * 2048))) (wrap64 (t263 * 4096))) 13).bind fun t264 => (some t264))) = some r := H
              have A19 := Aside0.mk A190
              clear A190
              replace H := Option.bind_eq_some_iff.mp H
              obtain ⟨t263, A200, H⟩ := H
              replace H : ((ravelinref15_signed.f k (Go.bits .or .i64 (Go.bits .or .i64 (Go.bits .or .i64 (wrap64 (t260 * 2)) (wrap64 (t261 * 32))) (wrap64 (t262 * 2048))) (wrap64 (t263 * 4096))) 13).bind fun t264 => (some t264)) = some r := H
              have A20 := Aside0.mk A200
              clear A200
              replace H := Option.bind_eq_some_iff.mp H
              obtain ⟨t264, A210, H⟩ := H
              replace H : (some t264) = some r := H
              have A21 := Aside0.mk A210
              clear A210
              obtain rfl := Option.some.inj H
              go_enter Tryz.func87, Tryz.ntmps87
              go_wp2_with (first | ((with_reducible refine gate_callee (f := 86) rfl ?_); refine goesL_ (some 35) rfl rfl Tryz.func86 (by kernel_rfl) rfl #[.int .u32 a1, .int .i64 8, .int .i64 4] rfl (by (try simp only [List.map_toArray, List.map_cons, List.map_nil]); first | done | rfl | (simp only [List.length_drop, List.length_take]; rfl)) ?_; (with_reducible refine (ravelinref15_part.calls k a1 8 4 t260 _ A17.out).mono ?_); rintro e w' ⟨rfl, ⟨nd, rfl⟩⟩; refine ⟨_, rfl, ?_⟩) | ((with_reducible refine gate_callee (f := 86) rfl ?_); refine goesL_ (some 38) rfl rfl Tryz.func86 (by kernel_rfl) rfl #[.int .u32 a1, .int .i64 25, .int .i64 6] rfl (by (try simp only [List.map_toArray, List.map_cons, List.map_nil]); first | done | rfl | (simp only [List.length_drop, List.length_take]; rfl)) ?_; (with_reducible refine (ravelinref15_part.calls k a1 25 6 t261 _ A18.out).mono ?_); rintro e w' ⟨rfl, ⟨nd, rfl⟩⟩; refine ⟨_, rfl, ?_⟩) | ((with_reducible refine gate_callee (f := 86) rfl ?_); refine goesL_ (some 42) rfl rfl Tryz.func86 (by kernel_rfl) rfl #[.int .u32 a1, .int .i64 7, .int .i64 1] rfl (by (try simp only [List.map_toArray, List.map_cons, List.map_nil]); first | done | rfl | (simp only [List.length_drop, List.length_take]; rfl)) ?_; (with_reducible refine (ravelinref15_part.calls k a1 7 1 t262 _ A19.out).mono ?_); rintro e w' ⟨rfl, ⟨nd, rfl⟩⟩; refine ⟨_, rfl, ?_⟩) | ((with_reducible refine gate_callee (f := 86) rfl ?_); refine goesL_ (some 46) rfl rfl Tryz.func86 (by kernel_rfl) rfl #[.int .u32 a1, .int .i64 31, .int .i64 1] rfl (by (try simp only [List.map_toArray, List.map_cons, List.map_nil]); first | done | rfl | (simp only [List.length_drop, List.length_take]; rfl)) ?_; (with_reducible refine (ravelinref15_part.calls k a1 31 1 t263 _ A20.out).mono ?_); rintro e w' ⟨rfl, ⟨nd, rfl⟩⟩; refine ⟨_, rfl, ?_⟩) | ((with_reducible refine gate_callee (f := 105) rfl ?_); refine goesL_ (some 49) rfl rfl Tryz.func105 (by kernel_rfl) rfl #[.int .i64 (Go.bits .or .i64 (Go.bits .or .i64 (Go.bits .or .i64 (wrap64 (t260 * 2)) (wrap64 (t261 * 32))) (wrap64 (t262 * 2048))) (wrap64 (t263 * 4096))), .int .i64 13] rfl (by (try simp only [List.map_toArray, List.map_cons, List.map_nil]); first | done | rfl | (simp only [List.length_drop, List.length_take]; rfl)) ?_; (with_reducible refine (ravelinref15_signed.calls k (Go.bits .or .i64 (Go.bits .or .i64 (Go.bits .or .i64 (wrap64 (t260 * 2)) (wrap64 (t261 * 32))) (wrap64 (t262 * 2048))) (wrap64 (t263 * 4096))) 13 t264 _ A21.out).mono ?_); rintro e w' ⟨rfl, ⟨nd, rfl⟩⟩; refine ⟨_, rfl, ?_⟩))
              go_ret
              exact ⟨by first | rfl | (simp; done) | (simp [*]; done), by repeat (first | exact Drawn0.refl _ | apply Drawn0.step)⟩
            · rw [if_neg c16] at H
              have c16b0 : (a0 == 7) = false := beq_eq_false_iff_ne.mpr c16
              have c16b1 : (a0 != 7) = true := bne_iff_ne.mpr c16
              by_cases c22 : a0 = 8
              · rw [if_pos c22] at H
                have c22b0 : (a0 == 8) = true := beq_iff_eq.mpr c22
                have c22b1 : (a0 != 8) = false := bne_eq_false_iff_eq.mpr c22
                clear c22
                replace H := Option.bind_eq_some_iff.mp H
                obtain ⟨t265, A230, H⟩ := H
                replace H : ((ravelinref15_part.f k a1 20 1).bind fun t266 => ((ravelinref15_part.f k a1 12 8).bind fun t267 => ((ravelinref15_part.f k a1 31 1).bind fun t268 => ((ravelinref15_signed.f k (Go.bits .or .i64 (Go.bits .or .i64 (Go.bits .or .i64 (wrap64 (t265 * 2)) (wrap64 (t266 * 2048))) (wrap64 (t267 * 4096))) (wrap64 (t268 * 1048576))) 21).bind fun t269 => (some t269))))) = some r := H
                have A23 := Aside0.mk A230
                clear A230
                replace H := Option.bind_eq_some_iff.mp H
                obtain ⟨t266, A240, H⟩ := H
                replace H : ((ravelinref15_part.f k a1 12 8).bind fun t267 => ((ravelinref15_part.f k a1 31 1).bind fun t268 => ((ravelinref15_signed.f k (Go.bits .or .i64 (Go.bits .or .i64 (Go.bits .or .i64 (wrap64 (t265 * 2)) (wrap64 (t266 * 2048))) (wrap64 (t267 * 4096))) (wrap64 (t268 * 1048576))) 21).bind fun t269 => (some t269)))) = some r := H
                have A24 := Aside0.mk A240
                clear A240
                replace H := Option.bind_eq_some_iff.mp H
                obtain ⟨t267, A250, H⟩ := H
                replace H : ((ravelinref15_part.f k a1 31 1).bind fun t268 => ((ravelinref15_signed.f k (Go.bits .or .i64 (Go.bits .or .i64 (Go.bits .or .i64 (wrap64 (t265 * 2)) (wrap64 (t266 * 2048))) (wrap64 (t267 * 4096))) (wrap64 (t268 * 1048576))) 21).bind fun t269 => (some t269))) = some r := H
                have A25 := Aside0.mk A250
                clear A250
                replace H := Option.bind_eq_some_iff.mp H
                obtain ⟨t268, A260, H⟩ := H
                replace H : ((ravelinref15_signed.f k (Go.bits .or .i64 (Go.bits .or .i64 (Go.bits .or .i64 (wrap64 (t265 * 2)) (wrap64 (t266 * 2048))) (wrap64 (t267 * 4096))) (wrap64 (t268 * 1048576))) 21).bind fun t269 => (some t269)) = some r := H
                have A26 := Aside0.mk A260
                clear A260
                replace H := Option.bind_eq_some_iff.mp H
                obtain ⟨t269, A270, H⟩ := H
                replace H : (some t269) = some r := H
                have A27 := Aside0.mk A270
                clear A270
                obtain rfl := Option.some.inj H
                go_enter Tryz.func87, Tryz.ntmps87
                go_wp2_with (first | ((with_reducible refine gate_callee (f := 86) rfl ?_); refine goesL_ (some 53) rfl rfl Tryz.func86 (by kernel_rfl) rfl #[.int .u32 a1, .int .i64 21, .int .i64 10] rfl (by (try simp only [List.map_toArray, List.map_cons, List.map_nil]); first | done | rfl | (simp only [List.length_drop, List.length_take]; rfl)) ?_; (with_reducible refine (ravelinref15_part.calls k a1 21 10 t265 _ A23.out).mono ?_); rintro e w' ⟨rfl, ⟨nd, rfl⟩⟩; refine ⟨_, rfl, ?_⟩) | ((with_reducible refine gate_callee (f := 86) rfl ?_); refine goesL_ (some 56) rfl rfl Tryz.func86 (by kernel_rfl) rfl #[.int .u32 a1, .int .i64 20, .int .i64 1] rfl (by (try simp only [List.map_toArray, List.map_cons, List.map_nil]); first | done | rfl | (simp only [List.length_drop, List.length_take]; rfl)) ?_; (with_reducible refine (ravelinref15_part.calls k a1 20 1 t266 _ A24.out).mono ?_); rintro e w' ⟨rfl, ⟨nd, rfl⟩⟩; refine ⟨_, rfl, ?_⟩) | ((with_reducible refine gate_callee (f := 86) rfl ?_); refine goesL_ (some 60) rfl rfl Tryz.func86 (by kernel_rfl) rfl #[.int .u32 a1, .int .i64 12, .int .i64 8] rfl (by (try simp only [List.map_toArray, List.map_cons, List.map_nil]); first | done | rfl | (simp only [List.length_drop, List.length_take]; rfl)) ?_; (with_reducible refine (ravelinref15_part.calls k a1 12 8 t267 _ A25.out).mono ?_); rintro e w' ⟨rfl, ⟨nd, rfl⟩⟩; refine ⟨_, rfl, ?_⟩) | ((with_reducible refine gate_callee (f := 86) rfl ?_); refine goesL_ (some 64) rfl rfl Tryz.func86 (by kernel_rfl) rfl #[.int .u32 a1, .int .i64 31, .int .i64 1] rfl (by (try simp only [List.map_toArray, List.map_cons, List.map_nil]); first | done | rfl | (simp only [List.length_drop, List.length_take]; rfl)) ?_; (with_reducible refine (ravelinref15_part.calls k a1 31 1 t268 _ A26.out).mono ?_); rintro e w' ⟨rfl, ⟨nd, rfl⟩⟩; refine ⟨_, rfl, ?_⟩) | ((with_reducible refine gate_callee (f := 105) rfl ?_); refine goesL_ (some 67) rfl rfl Tryz.func105 (by kernel_rfl) rfl #[.int .i64 (Go.bits .or .i64 (Go.bits .or .i64 (Go.bits .or .i64 (wrap64 (t265 * 2)) (wrap64 (t266 * 2048))) (wrap64 (t267 * 4096))) (wrap64 (t268 * 1048576))), .int .i64 21] rfl (by (try simp only [List.map_toArray, List.map_cons, List.map_nil]); first | done | rfl | (simp only [List.length_drop, List.length_take]; rfl)) ?_; (with_reducible refine (ravelinref15_signed.calls k (Go.bits .or .i64 (Go.bits .or .i64 (Go.bits .or .i64 (wrap64 (t265 * 2)) (wrap64 (t266 * 2048))) (wrap64 (t267 * 4096))) (wrap64 (t268 * 1048576))) 21 t269 _ A27.out).mono ?_); rintro e w' ⟨rfl, ⟨nd, rfl⟩⟩; refine ⟨_, rfl, ?_⟩))
                go_ret
                exact ⟨by first | rfl | (simp; done) | (simp [*]; done), by repeat (first | exact Drawn0.refl _ | apply Drawn0.step)⟩
              · rw [if_neg c22] at H
                have c22b0 : (a0 == 8) = false := beq_eq_false_iff_ne.mpr c22
                have c22b1 : (a0 != 8) = true := bne_iff_ne.mpr c22
                obtain rfl := Option.some.inj H
                go_enter Tryz.func87, Tryz.ntmps87
                go_wp2
                go_ret
                exact ⟨by first | rfl | (simp; done) | (simp [*]; done), by repeat (first | exact Drawn0.refl _ | apply Drawn0.step)⟩
end Go.Proofs.YtcgkgaibomcheaaGreat.PRvemuRuns
end
