/- Joined out of this claim's texts: PRvemuRunsx5, HeadP, Clone, ENew. Conditions: those of each theorem. -/
import Derived.Test.YtcgkgaibomcheaaGreatZB03
import Derived.Test.YtcgkgaibomcheaaGreatZB08
import Derived.Test.YtcgkgaibomcheaaGreatZB12
import Derived.Test.YtcgkgaibomcheaaGreatZB06
import Derived.Lib.SliceRun
import Derived.Test.YtcgkgaibomcheaaGreatZB09
import Derived.Test.YtcgkgaibomcheaaGreatZB07
section
namespace Go.Proofs.YtcgkgaibomcheaaGreat.PRvemuRuns
open Go.RowKit Go.Proofs.YtcgkgaibomcheaaGreatW.PrintWords Go.Proofs.YtcgkgaibomcheaaGreatW.PrintLast Go.Proofs.YtcgkgaibomcheaaGreatW.PrintMore
attribute [local go_sem] max2_int min2_int max_two min_two max_three min_three max_four min_four   -- for this text's walks alone
set_option linter.unusedVariables false
set_option linter.unusedSimpArgs false

/-! ### ravelinref15_Bytes: function 18 -/
def ravelinref15_Bytes.l0 : Nat → List (S42) → List Int → Int → Option (List Int × Int × Int)
  | 0, _, _, _ => none
  | k + 1, x0, x5, x6 => if x6 < (x0.length : Int) then (if 0 ≤ x6 then ((ravelinref15_Encode.f k ((rd_T42 x0 x6).f0) ((rd_T42 x0 x6).f1) ((rd_T42 x0 x6).f2) ((rd_T42 x0 x6).f3) ((rd_T42 x0 x6).f4)).bind fun bt152 => (if bt152.2 = 0 then ((some (([(bt152.1) % 256, (bt152.1 / 256) % 256, (bt152.1 / 65536) % 256, (bt152.1 / 16777216) % 256] : List Int) : List Int)).bind fun y154 => (if x5.length + y154.length < 140737488355328 then (ravelinref15_Bytes.l0 k x0 (x5 ++ y154) (wrap64 (x6 + 1))) else (none))) else (some (([] : List Int), bt152.2, x6)))) else (none)) else (some (x5, 0, 0))
def ravelinref15_Bytes.f (k : Nat) (l0 : List (S42)) : Option (List Int × Int × Int) := ravelinref15_Bytes.l0 k l0 ([] : List Int) 0
set_option maxHeartbeats 8000000 in
set_option maxRecDepth 100000 in
theorem ravelinref15_Bytes.calls (k : Nat) (A0 : Option Addr) (c0 : Nat) (l0 : List (S42)) (r1 : List Int) (r2 : Int) (r3 : Int) (w : World) (hr0 : Kd.C k42 w A0 l0.length l0) (hc0 : l0.length ≤ c0) (h : ravelinref15_Bytes.f k l0 = some (r1, r2, r3)) :
    Calls Tryz.prog 18 #[.slice A0 l0.length c0] w fun e w' => ∃ v0_ : Value, e = .returned (.tuple #[v0_, .int .i64 r2, .int .i64 r3]) ∧ Kd.R (Kd.int .u8) 5 w' w.heap.size (fun _ => True) v0_ r1 ∧ Below w.heap.size w w' := by
  have hu42 := Tryz.underlying42
  have HR0 := Aside0.mk hr0
  have HC0 := Aside0.mk hc0
  clear hr0 hc0
  have HB := Aside0.mk (Below.refl w.heap.size w)
  have H : (ravelinref15_Bytes.l0 k l0 ([] : List Int) 0) = some (r1, r2, r3) := h
  clear h
  have H' := Aside0.mk H
  clear H
  go_enter Tryz.func18, Tryz.ntmps18
  go_wp2
  go_loopg [5, 6] k (fun kq v5 v6 w' => ∃ (x5_1 : List Int) (x6_1 : Int), v6 = .int .i64 x6_1 ∧ Aside0 (ravelinref15_Bytes.l0 kq l0 x5_1 x6_1 = some (r1, r2, r3)) ∧ Aside0 (kq ≤ k) ∧ Aside0 (Kd.R (Kd.int .u8) 5 w' w.heap.size (fun _ => True) v5 x5_1) ∧ Aside0 (Below w.heap.size w w'))
  case atStart => exact ⟨(([] : List Int)), (0), (by first | rfl | (simp; done) | (simp [*]; done)), H', ⟨Nat.le_refl _⟩, ⟨by first | exact Kd.R_nil _ _ _ _ _ | exact Kd.N_nil _ _ _ _ _ | exact Kd.V_nil _ _ _ _ _ | exact Kd.Q_nil _ _ _ _ _ | exact Kd.S_nil _ _ _ _ _⟩, ⟨by repeat (first | (with_reducible first | exact HB.out | apply below_alloc | apply pw_below_drewN | apply below_drew1) | exact HB.out)⟩⟩
  case round =>
    clear H'
    try clear c1
    obtain ⟨x5_1, x6_1, rfl, HA, HK1, HO_5, HB⟩ := hrel
    cases gk with
    | zero => exact absurd HA.out (by simp [ravelinref15_Bytes.l0])
    | succ k1 =>
      have H := HA.out
      clear HA
      simp only [ravelinref15_Bytes.l0] at H
      by_cases c2 : x6_1 < (l0.length : Int)
      · rw [if_pos c2] at H
        have c2b0 : decide (x6_1 < (l0.length : Int)) = true := decide_eq_true c2
        clear c2
        by_cases c3 : 0 ≤ x6_1
        · rw [if_pos c3] at H
          have c3b0 : decide (0 ≤ x6_1) = true := decide_eq_true c3
          clear c3
          replace H := Option.bind_eq_some_iff.mp H
          obtain ⟨⟨t152, t153⟩, A40, H⟩ := H
          replace H : (if t153 = 0 then ((some (([(t152) % 256, (t152 / 256) % 256, (t152 / 65536) % 256, (t152 / 16777216) % 256] : List Int) : List Int)).bind fun y154 => (if x5_1.length + y154.length < 140737488355328 then (ravelinref15_Bytes.l0 k1 l0 (x5_1 ++ y154) (wrap64 (x6_1 + 1))) else (none))) else (some (([] : List Int), t153, x6_1))) = some (r1, r2, r3) := H
          have A4 := Aside0.mk A40
          clear A40
          by_cases c5 : t153 = 0
          · rw [if_pos c5] at H
            have c5b0 : (t153 == 0) = true := beq_iff_eq.mpr c5
            have c5b1 : (t153 != 0) = false := bne_eq_false_iff_eq.mpr c5
            clear c5
            obtain ⟨y154, hy154⟩ : ∃ y_ : List Int, y_ = (([(t152) % 256, (t152 / 256) % 256, (t152 / 65536) % 256, (t152 / 16777216) % 256] : List Int)) := ⟨_, rfl⟩
            replace H : (if x5_1.length + y154.length < 140737488355328 then (ravelinref15_Bytes.l0 k1 l0 (x5_1 ++ y154) (wrap64 (x6_1 + 1))) else (none)) = some (r1, r2, r3) := by first | (rw [hy154]; with_reducible exact H) | (have H2_ := (Option.bind_some _ _).symm.trans H; rw [hy154]; with_reducible exact H2_) | (have H2_ := (Option.bind_some _ _).symm.trans H; with_reducible exact H2_) | with_reducible exact H | (rw [hy154]; exact H) | exact H
            have Ny154 := Aside0.mk hy154
            clear hy154
            by_cases c6 : x5_1.length + y154.length < 140737488355328
            · rw [if_pos c6] at H
              have LMc6 := Aside0.mk c6
              clear c6
              obtain ⟨y157, hy157⟩ : ∃ y_ : List Int, y_ = (x5_1 ++ y154) := ⟨_, rfl⟩
              replace H : (ravelinref15_Bytes.l0 k1 l0 y157 (wrap64 (x6_1 + 1))) = some (r1, r2, r3) := by first | (rw [hy157]; with_reducible exact H) | (have H2_ := (Option.bind_some _ _).symm.trans H; rw [hy157]; with_reducible exact H2_) | (have H2_ := (Option.bind_some _ _).symm.trans H; with_reducible exact H2_) | with_reducible exact H | (rw [hy157]; exact H) | exact H
              have Ny157 := Aside0.mk hy157
              clear hy157
              have H' := Aside0.mk H
              clear H
              have p151 : 0 ≤ (x6_1 : Int) := of_decide_eq_true (by first | (with_reducible assumption) | assumption)
              have q151 : x6_1 < (l0.length : Int) := of_decide_eq_true (by first | (with_reducible assumption) | assumption)
              obtain ⟨ad151, e151, hx151_0, hx151_1, hx151_2, hx151_3, hx151_4⟩ := at_T42 HR0.out x6_1 p151 q151
              cases e151
              replace hx151_0 := (HB.out.cell (World.block_lt_of_cell? w _ hx151_0)).trans hx151_0
              replace hx151_1 := (HB.out.cell (World.block_lt_of_cell? w _ hx151_1)).trans hx151_1
              replace hx151_2 := (HB.out.cell (World.block_lt_of_cell? w _ hx151_2)).trans hx151_2
              replace hx151_3 := (HB.out.cell (World.block_lt_of_cell? w _ hx151_3)).trans hx151_3
              replace hx151_4 := (HB.out.cell (World.block_lt_of_cell? w _ hx151_4)).trans hx151_4
              replace p151 := eq_true p151
              replace q151 := eq_true q151
              go_wp2_with (first | ((with_reducible refine gate_callee (f := 17) rfl ?_); refine goesL_ (some 20) rfl rfl Tryz.func17 (by kernel_rfl) rfl #[.agg #[.int .i64 ((rd_T42 l0 x6_1).f0), .int .i64 ((rd_T42 l0 x6_1).f1), .int .i64 ((rd_T42 l0 x6_1).f2), .int .i64 ((rd_T42 l0 x6_1).f3), .int .i64 ((rd_T42 l0 x6_1).f4)]] rfl (by (try simp only [List.map_toArray, List.map_cons, List.map_nil]); first | done | rfl | (simp only [List.length_drop, List.length_take]; rfl)) ?_; (with_reducible refine (ravelinref15_Encode.calls k1 ((rd_T42 l0 x6_1).f0) ((rd_T42 l0 x6_1).f1) ((rd_T42 l0 x6_1).f2) ((rd_T42 l0 x6_1).f3) ((rd_T42 l0 x6_1).f4) t152 t153 _ A4.out).mono ?_); rintro e w7 ⟨rfl, hb⟩; refine ⟨_, rfl, ?_⟩; have n0_ := Aside0.mk (Kd.R_below (by (with_reducible repeat (first | apply Kd.R_alloc | apply Kd.R_drewN | apply Kd.R_drew)); exact HO_5.out) hb); have n1_ := Aside0.mk (below_step (by repeat (first | (with_reducible first | exact HB.out | apply below_alloc | apply pw_below_drewN | apply below_drew1) | exact HB.out)) hb); clear HO_5; clear HB; have HO_5 := n0_; have HB := n1_; clear n0_ n1_; (try clear hb); (try clear hb2); (try clear hk); (try clear hi)) | ((with_reducible refine gate_dst (N := 39) rfl ?_); refine Kd.R_lit (Kd.int .u8) _ 5 ?hg (N := 39) ?hd (xs := ([(t152) % 256, (t152 / 256) % 256, (t152 / 65536) % 256, (t152 / 16777216) % 256] : List Int)) (inner := [.int .u8 ((t152) % 256), .int .u8 ((t152 / 256) % 256), .int .u8 ((t152 / 65536) % 256), .int .u8 ((t152 / 16777216) % 256)]) (ok := fun _ => True) (okp := fun _ => True) ?hr ?hp (fun _ hk => hk) trivial (Below.refl _ _) (Nat.le_refl _) (by simp) ?_; (case hd => rfl); (case hg => rfl); (case hr => first | (go_simp; done) | (go_simp; rfl)); (case hp => exact (Reps.one (show Kd.M (Kd.int .u8) _ _ _ ((t152) % 256) [.int .u8 ((t152) % 256)] from rfl) (Reps.one (show Kd.M (Kd.int .u8) _ _ _ ((t152 / 256) % 256) [.int .u8 ((t152 / 256) % 256)] from rfl) (Reps.one (show Kd.M (Kd.int .u8) _ _ _ ((t152 / 65536) % 256) [.int .u8 ((t152 / 65536) % 256)] from rfl) (Reps.one (show Kd.M (Kd.int .u8) _ _ _ ((t152 / 16777216) % 256) [.int .u8 ((t152 / 16777216) % 256)] from rfl) (Reps.none _ _)))))); intro v155 w8 ho9 hb hg_ hnew_; clear hg_ hnew_; (first | rw [← Ny154.out] at ho9 | (simp only [Int.reduceToNat] at ho9; rw [← Ny154.out] at ho9)); have n0_ := Aside0.mk (Kd.R_elder' (by (with_reducible repeat (first | apply Kd.R_alloc | apply Kd.R_drewN | apply Kd.R_drew)); exact HO_5.out) (Kd.R_base ho9) hb); have n1_ := Aside0.mk (Kd.R_lower (Kd.R_new' ho9 (Kd.R_lt (by (with_reducible repeat (first | apply Kd.R_alloc | apply Kd.R_drewN | apply Kd.R_drew)); exact HO_5.out))) (below_size (by repeat (first | (with_reducible first | exact HB.out | apply below_alloc | apply pw_below_drewN | apply below_drew1) | exact HB.out)))); have n2_ := Aside0.mk (below_step (by repeat (first | (with_reducible first | exact HB.out | apply below_alloc | apply pw_below_drewN | apply below_drew1) | exact HB.out)) hb); clear HO_5; clear HB; have HO_5 := n0_; have HO156 := n1_; have HB := n2_; clear n0_ n1_ n2_; clear hb ho9; obtain ⟨Ao11, co11, eo11⟩ := Kd.R_slice HO156.out; subst eo11) | ((with_reducible refine gate_builtin (b := .append) (xs := #[.tmp 27, .tmp 39]) rfl ?_); at_builtin; refine Kd.R_append_rows (Kd.int .u8) (w0 := w) w.heap.size rfl (.tmp 27) (.tmp 39) 22 5 (.int .u8 0) 1 rfl Tryz.underlying22 info5 rfl (by decide) (by omega) u5 x5_1 y154 _ _ _ (fun k_ => some k_ ≠ (.slice Ao11 y154.length co11 : Value).ownBlock) (fun _ => False) rfl rfl ?aO ?aR (fun _ _ h => h) (fun _ h => h.elim) ?aF ?aB ?aS ?aL ?_; (case aR => repeat (first | exact (Kd.R_reads' HO156.out).2.2 | (with_reducible refine Kd.C_alloc ?_ _) | (with_reducible refine Kd.C_drewN ?_ _) | (with_reducible refine Kd.C_drew ?_))); (case aB => exact (by repeat (first | (with_reducible first | exact HB.out | apply below_alloc | apply pw_below_drewN | apply below_drew1) | exact HB.out))); (case aF => exact (fun k_ hk => Kd.fresh' (Kd.R_lt (by (with_reducible repeat (first | apply Kd.R_alloc | apply Kd.R_drewN | apply Kd.R_drew)); exact HO156.out)) k_ hk)); (case aO => exact (by (with_reducible repeat (first | apply Kd.R_alloc | apply Kd.R_drewN | apply Kd.R_drew)); exact Kd.R_mono HO_5.out (fun _ hk => hk.2))); (case aS => exact (below_size (by repeat (first | (with_reducible first | exact HB.out | apply below_alloc | apply pw_below_drewN | apply below_drew1) | exact HB.out)))); (case aL => have := LMc6.out; omega); intro v158 w10 ho hb hg hat; rw [← Ny157.out] at ho; have n0_ := Aside0.mk (Kd.R_after (ok := (fun _ => True)) (by (with_reducible repeat (first | apply Kd.R_alloc | apply Kd.R_drewN | apply Kd.R_drew)); exact HO156.out) hg hat); have n1_ := Aside0.mk (hb); have n2_ := Aside0.mk (ho); clear HO156; clear HB; clear HO_5; have HO156 := n0_; have HB := n1_; have HO159 := n2_; clear n0_ n1_ n2_; clear ho hb hg hat))
              go_roundg k1
              case measure => have := HK1.out; omega
              case rel => exact ⟨(y157), (wrap64 (x6_1 + 1)), (by first | rfl | (simp; done) | (simp [*]; done)), H', ⟨by have := HK1.out; omega⟩, ⟨by (with_reducible repeat (first | apply Kd.R_alloc | apply Kd.R_drewN | apply Kd.R_drew)); exact Kd.R_mono HO159.out (fun _ hk => trivial)⟩, ⟨by repeat (first | (with_reducible first | exact HB.out | apply below_alloc | apply pw_below_drewN | apply below_drew1) | exact HB.out)⟩⟩
            · rw [if_neg c6] at H
              exact absurd H (by simp)
          · rw [if_neg c5] at H
            have c5b0 : (t153 == 0) = false := beq_eq_false_iff_ne.mpr c5
            have c5b1 : (t153 != 0) = true := bne_iff_ne.mpr c5
            simp only [Option.some.injEq, Prod.mk.injEq] at H
            obtain ⟨rfl, rfl, rfl⟩ := H
            have p151 : 0 ≤ (x6_1 : Int) := of_decide_eq_true (by first | (with_reducible assumption) | assumption)
            have q151 : x6_1 < (l0.length : Int) := of_decide_eq_true (by first | (with_reducible assumption) | assumption)
            obtain ⟨ad151, e151, hx151_0, hx151_1, hx151_2, hx151_3, hx151_4⟩ := at_T42 HR0.out x6_1 p151 q151
            cases e151
            replace hx151_0 := (HB.out.cell (World.block_lt_of_cell? w _ hx151_0)).trans hx151_0
            replace hx151_1 := (HB.out.cell (World.block_lt_of_cell? w _ hx151_1)).trans hx151_1
            replace hx151_2 := (HB.out.cell (World.block_lt_of_cell? w _ hx151_2)).trans hx151_2
            replace hx151_3 := (HB.out.cell (World.block_lt_of_cell? w _ hx151_3)).trans hx151_3
            replace hx151_4 := (HB.out.cell (World.block_lt_of_cell? w _ hx151_4)).trans hx151_4
            replace p151 := eq_true p151
            replace q151 := eq_true q151
            go_wp2_with (first | ((with_reducible refine gate_callee (f := 17) rfl ?_); refine goesL_ (some 20) rfl rfl Tryz.func17 (by kernel_rfl) rfl #[.agg #[.int .i64 ((rd_T42 l0 x6_1).f0), .int .i64 ((rd_T42 l0 x6_1).f1), .int .i64 ((rd_T42 l0 x6_1).f2), .int .i64 ((rd_T42 l0 x6_1).f3), .int .i64 ((rd_T42 l0 x6_1).f4)]] rfl (by (try simp only [List.map_toArray, List.map_cons, List.map_nil]); first | done | rfl | (simp only [List.length_drop, List.length_take]; rfl)) ?_; (with_reducible refine (ravelinref15_Encode.calls k1 ((rd_T42 l0 x6_1).f0) ((rd_T42 l0 x6_1).f1) ((rd_T42 l0 x6_1).f2) ((rd_T42 l0 x6_1).f3) ((rd_T42 l0 x6_1).f4) t152 t153 _ A4.out).mono ?_); rintro e w12 ⟨rfl, hb⟩; refine ⟨_, rfl, ?_⟩; have n0_ := Aside0.mk (Kd.R_below (by (with_reducible repeat (first | apply Kd.R_alloc | apply Kd.R_drewN | apply Kd.R_drew)); exact HO_5.out) hb); have n1_ := Aside0.mk (below_step (by repeat (first | (with_reducible first | exact HB.out | apply below_alloc | apply pw_below_drewN | apply below_drew1) | exact HB.out)) hb); clear HO_5; clear HB; have HO_5 := n0_; have HB := n1_; clear n0_ n1_; (try clear hb); (try clear hb2); (try clear hk); (try clear hi)))
            go_ret3
            exact ⟨_, by first | rfl | (simp [errW_none, errW_some] <;> rfl) | (simp [*, errW_none, errW_some] <;> rfl), by first | exact Kd.R_nil _ _ _ _ _ | exact Kd.N_nil _ _ _ _ _ | exact Kd.V_nil _ _ _ _ _ | exact Kd.Q_nil _ _ _ _ _ | exact Kd.S_nil _ _ _ _ _, by repeat (first | (with_reducible first | exact HB.out | apply below_alloc | apply pw_below_drewN | apply below_drew1) | exact HB.out)⟩
        · rw [if_neg c3] at H
          exact absurd H (by simp)
      · rw [if_neg c2] at H
        have c2b0 : decide (x6_1 < (l0.length : Int)) = false := decide_eq_false c2
        clear c2
        simp only [Option.some.injEq, Prod.mk.injEq] at H
        obtain ⟨rfl, rfl, rfl⟩ := H
        go_wp2
        go_ret3
        exact ⟨_, by first | rfl | (simp [errW_none, errW_some] <;> rfl) | (simp [*, errW_none, errW_some] <;> rfl), by (with_reducible repeat (first | apply Kd.R_alloc | apply Kd.R_drewN | apply Kd.R_drew)); exact HO_5.out, by repeat (first | (with_reducible first | exact HB.out | apply below_alloc | apply pw_below_drewN | apply below_drew1) | exact HB.out)⟩

-- NOT PRINTED: function 10 (ravelinlaw16_Head)

/-! ### ravelinlaw16_Fit: function 11 -/
def ravelinlaw16_Fit.f (l0_0 : List Int) (l0_1 : List Int) (l0_2 : List Int) (l0_3 : List Int) (a0_4 : Int) (a0_5 : Int) : Option (List Int × List Int × List Int × List Int × Int × Int) := if a0_5 > 2000 then (if a0_4 > 65536 then (if a0_4 ≤ 1048576 then (some (l0_0, l0_1, l0_2, l0_3, Int.tmod a0_4 65536, 2000)) else (some (l0_0, l0_1, l0_2, l0_3, a0_4, 2000))) else (some (l0_0, l0_1, l0_2, l0_3, a0_4, 2000))) else (if a0_4 > 65536 then (if a0_4 ≤ 1048576 then (some (l0_0, l0_1, l0_2, l0_3, Int.tmod a0_4 65536, a0_5)) else (some (l0_0, l0_1, l0_2, l0_3, a0_4, a0_5))) else (some (l0_0, l0_1, l0_2, l0_3, a0_4, a0_5)))
-- NOT PRINTED: function 12 (ravelinlaw16_lent)

end Go.Proofs.YtcgkgaibomcheaaGreat.PRvemuRuns
end

section
/- Head in plain numbers: what the kernel reckons. -/
namespace Go.Proofs.YtcgkgaibomcheaaGreat.HeadP
open Go.RowKit Go.Proofs.YtcgkgaibomcheaaGreat.Bits Go.Proofs.YtcgkgaibomcheaaGreat.Mac Go.Proofs.YtcgkgaibomcheaaGreat.NewM Go.Proofs.YtcgkgaibomcheaaGreat.Pure Go.Proofs.YtcgkgaibomcheaaGreat.PRvemuRuns
def code : List Int := [19, 5, 80, 0, 103, 128, 0, 0]
def insns : List S42 := [⟨2, 10, 0, 0, 5⟩, ⟨34, 0, 1, 0, 0⟩]
set_option maxRecDepth 100000 in
theorem bytes : ravelinref15_Bytes.f 200 insns = some (code, 0, 0) := by decide +kernel
def m0 : Mac := newM code [] [] [] 0 9
set_option maxRecDepth 100000 in
theorem ends : (it 2 m0).done = true ∧ (it 2 m0).err = 0 ∧ (it 2 m0).steps = 2 ∧ (it 2 m0).x 10 = 5#64 := by decide +kernel
theorem run : (runM m0).err = 0 ∧ (runM m0).steps = 2 ∧ (runM m0).x 10 = 5#64 := by
  have h := ends
  rw [runM_of m0 rfl h.1]
  exact h.2
end Go.Proofs.YtcgkgaibomcheaaGreat.HeadP
end

section
/- slices.Clone at bytes, numbers, accesses. Conditions: those of each theorem. -/
namespace Go.Proofs.YtcgkgaibomcheaaGreat.Clone
open Go.RowKit Go.Proofs.YtcgkgaibomcheaaGreat.Bits Go.Proofs.YtcgkgaibomcheaaGreat.PRvemuRuns Go.Proofs.YtcgkgaibomcheaaGreatW.PrintWords Go.Proofs.YtcgkgaibomcheaaGreatW.PrintLast Go.Proofs.YtcgkgaibomcheaaGreatW.PrintMore
set_option linter.unusedVariables false
set_option linter.unusedSimpArgs false

theorem inf5 : (Tryz.prog.info? 5).map (fun i => (i.zero, i.size, i.bytes)) = some (some (.int .u8 0), 1, 1) := by kernel_rfl
theorem inf52 : (Tryz.prog.info? 52).map (fun i => (i.zero, i.size, i.bytes)) = some (some (.int .u64 0), 1, 8) := by kernel_rfl
theorem none_nil {α : Type} {d : Kd α} {w : World} {l : List α} (h : d.C w none l.length l) : l = [] := by
  by_cases hl : 0 < l.length
  · obtain ⟨ad, e, _⟩ := h.2.2 hl
    cases e
  · exact List.eq_nil_of_length_eq_zero (by omega)
set_option maxRecDepth 20000 in
theorem clone33 (A : Option Addr) (c : Nat) (l : List Int) (w : World) (hr : (Kd.int .u8).C w A l.length l) (hl : l.length * 1 ≤ 140737488355328) :
    Calls Tryz.prog 33 #[.slice A l.length c] w fun e w' => ∃ v : Value, e = .returned v ∧ (Kd.int .u8).R 5 w' w.heap.size (fun _ => True) v l ∧ Below w.heap.size w w' := by
  have qT : ∀ (w : World) (a : Option Addr) (n c n' c' : Nat), (binOp .eql 22 (.slice a n c) (.slice none n' c')).run Tryz.prog w = .ok (.bool a.isNone) w := fun w a n c n' c' => Lib.run_eql_slice_nil w _ _ a n c n' c' Tryz.underlying22
  cases A with
  | none =>
    have hn := none_nil hr
    subst hn
    clear hr hl
    go_enter Tryz.func33, Tryz.ntmps33
    go_wp2
    go_ret
    exact ⟨_, rfl, Kd.R_nil _ _ _ _ _, Below.refl _ _⟩
  | some ad =>
    have HR := Aside0.mk hr
    clear hr
    go_enter Tryz.func33, Tryz.ntmps33
    go_wp2_with (first | ((with_reducible refine gate_dst (N := 5) rfl ?_); refine Kd.R_lit (Kd.int .u8) (w0 := w) w.heap.size 5 ?hg (N := 5) ?hd (xs := []) (inner := []) (ok := fun _ => True) (okp := fun _ => True) ?hr ?hp (fun _ hk => hk) trivial (Below.refl _ _) (Nat.le_refl _) (by simp) ?_; (case hd => rfl); (case hg => rfl); (case hr => first | (go_simp; done) | (go_simp; rfl)); (case hp => exact (Reps.none _ _)); intro v5 w5 ho5 hb5 hg5_ hn5_; clear hg5_ hn5_; have HO5 := Aside0.mk ho5; have HB5 := Aside0.mk hb5; clear ho5 hb5) | ((with_reducible refine gate_builtin (b := .append) (xs := #[.tmp 5, .tmp 6]) rfl ?_); at_builtin; refine Kd.R_append_rows (Kd.int .u8) (Rr := (Kd.int .u8).K w5) (w0 := w) w.heap.size rfl (.tmp 5) (.tmp 6) 22 5 (.int .u8 0) 1 rfl Tryz.underlying22 inf5 rfl (by decide) (by omega) v5 [] l _ _ _ (fun _ => True) (fun _ => False) rfl rfl ?aO ?aR (fun _ _ h => h) (fun _ h => h.elim) ?aF ?aB ?aS ?aL ?_; (case aO => exact HO5.out); (case aR => exact Kd.C_below HR.out HB5.out); (case aF => exact fun _ _ => trivial); (case aB => exact HB5.out); (case aS => exact HB5.out.size); (case aL => simp only [List.length_nil]; omega); intro v7 w7 ho7 hb7 hg7_ ha7_; clear hg7_ ha7_; have HO7 := Aside0.mk ho7; have HB7 := Aside0.mk hb7; clear ho7 hb7 HO5 HB5))
    go_ret
    exact ⟨_, rfl, HO7.out, HB7.out⟩
set_option maxRecDepth 20000 in
theorem clone37 (A : Option Addr) (c : Nat) (l : List Int) (w : World) (hr : (Kd.int .u64).C w A l.length l) (hl : l.length * 8 ≤ 140737488355328) :
    Calls Tryz.prog 37 #[.slice A l.length c] w fun e w' => ∃ v : Value, e = .returned v ∧ (Kd.int .u64).R 52 w' w.heap.size (fun _ => True) v l ∧ Below w.heap.size w w' := by
  have qT : ∀ (w : World) (a : Option Addr) (n c n' c' : Nat), (binOp .eql 23 (.slice a n c) (.slice none n' c')).run Tryz.prog w = .ok (.bool a.isNone) w := fun w a n c n' c' => Lib.run_eql_slice_nil w _ _ a n c n' c' Tryz.underlying23
  cases A with
  | none =>
    have hn := none_nil hr
    subst hn
    clear hr hl
    go_enter Tryz.func37, Tryz.ntmps37
    go_wp2
    go_ret
    exact ⟨_, rfl, Kd.R_nil _ _ _ _ _, Below.refl _ _⟩
  | some ad =>
    have HR := Aside0.mk hr
    clear hr
    go_enter Tryz.func37, Tryz.ntmps37
    go_wp2_with (first | ((with_reducible refine gate_dst (N := 5) rfl ?_); refine Kd.R_lit (Kd.int .u64) (w0 := w) w.heap.size 52 ?hg (N := 5) ?hd (xs := []) (inner := []) (ok := fun _ => True) (okp := fun _ => True) ?hr ?hp (fun _ hk => hk) trivial (Below.refl _ _) (Nat.le_refl _) (by simp) ?_; (case hd => rfl); (case hg => rfl); (case hr => first | (go_simp; done) | (go_simp; rfl)); (case hp => exact (Reps.none _ _)); intro v5 w5 ho5 hb5 hg5_ hn5_; clear hg5_ hn5_; have HO5 := Aside0.mk ho5; have HB5 := Aside0.mk hb5; clear ho5 hb5) | ((with_reducible refine gate_builtin (b := .append) (xs := #[.tmp 5, .tmp 6]) rfl ?_); at_builtin; refine Kd.R_append_rows (Kd.int .u64) (Rr := (Kd.int .u64).K w5) (w0 := w) w.heap.size rfl (.tmp 5) (.tmp 6) 23 52 (.int .u64 0) 8 rfl Tryz.underlying23 inf52 rfl (by decide) (by omega) v5 [] l _ _ _ (fun _ => True) (fun _ => False) rfl rfl ?aO ?aR (fun _ _ h => h) (fun _ h => h.elim) ?aF ?aB ?aS ?aL ?_; (case aO => exact HO5.out); (case aR => exact Kd.C_below HR.out HB5.out); (case aF => exact fun _ _ => trivial); (case aB => exact HB5.out); (case aS => exact HB5.out.size); (case aL => simp only [List.length_nil]; omega); intro v7 w7 ho7 hb7 hg7_ ha7_; clear hg7_ ha7_; have HO7 := Aside0.mk ho7; have HB7 := Aside0.mk hb7; clear ho7 hb7 HO5 HB5))
    go_ret
    exact ⟨_, rfl, HO7.out, HB7.out⟩
set_option maxRecDepth 20000 in
theorem clone38 (A : Option Addr) (c : Nat) (l : List S54) (w : World) (hr : k54.C w A l.length l) (hl : l.length * 24 ≤ 140737488355328) :
    Calls Tryz.prog 38 #[.slice A l.length c] w fun e w' => ∃ v : Value, e = .returned v ∧ k54.R 54 w' w.heap.size (fun _ => True) v l ∧ Below w.heap.size w w' := by
  have qT : ∀ (w : World) (a : Option Addr) (n c n' c' : Nat), (binOp .eql 29 (.slice a n c) (.slice none n' c')).run Tryz.prog w = .ok (.bool a.isNone) w := fun w a n c n' c' => Lib.run_eql_slice_nil w _ _ a n c n' c' Tryz.underlying29
  cases A with
  | none =>
    have hn := none_nil hr
    subst hn
    clear hr hl
    go_enter Tryz.func38, Tryz.ntmps38
    go_wp2
    go_ret
    exact ⟨_, rfl, Kd.R_nil _ _ _ _ _, Below.refl _ _⟩
  | some ad =>
    have HR := Aside0.mk hr
    clear hr
    go_enter Tryz.func38, Tryz.ntmps38
    go_wp2_with (first | ((with_reducible refine gate_dst (N := 5) rfl ?_); refine Kd.R_lit k54 (w0 := w) w.heap.size 54 ?hg (N := 5) ?hd (xs := []) (inner := []) (ok := fun _ => True) (okp := fun _ => True) ?hr ?hp (fun _ hk => hk) trivial (Below.refl _ _) (Nat.le_refl _) (by simp) ?_; (case hd => rfl); (case hg => rfl); (case hr => first | (go_simp; done) | (go_simp; rfl)); (case hp => exact (Reps.none _ _)); intro v5 w5 ho5 hb5 hg5_ hn5_; clear hg5_ hn5_; have HO5 := Aside0.mk ho5; have HB5 := Aside0.mk hb5; clear ho5 hb5) | ((with_reducible refine gate_builtin (b := .append) (xs := #[.tmp 5, .tmp 6]) rfl ?_); at_builtin; refine Kd.R_append_rows k54 (Rr := k54.K w5) (w0 := w) w.heap.size rfl (.tmp 5) (.tmp 6) 29 54 (.agg #[.bool false, .int .u64 0, .int .i64 0]) 24 rfl Tryz.underlying29 Rd.info54 rfl (by decide) (by omega) v5 [] l _ _ _ (fun _ => True) (fun _ => False) rfl rfl ?aO ?aR (fun x cs h => by rw [k54_open h]; exact k54_mkM _ _ _ x) (fun _ h => h.elim) ?aF ?aB ?aS ?aL ?_; (case aO => exact HO5.out); (case aR => exact Kd.C_below HR.out HB5.out); (case aF => exact fun _ _ => trivial); (case aB => exact HB5.out); (case aS => exact HB5.out.size); (case aL => simp only [List.length_nil]; omega); intro v7 w7 ho7 hb7 hg7_ ha7_; clear hg7_ ha7_; have HO7 := Aside0.mk ho7; have HB7 := Aside0.mk hb7; clear ho7 hb7 HO5 HB5))
    go_ret
    exact ⟨_, rfl, HO7.out, HB7.out⟩
end Go.Proofs.YtcgkgaibomcheaaGreat.Clone
end

section
/- The program's New. Conditions: the entry can be read. -/
namespace Go.Proofs.YtcgkgaibomcheaaGreat.ENew
open Go.RowKit Go.Proofs.YtcgkgaibomcheaaGreat.Bits Go.Proofs.YtcgkgaibomcheaaGreat.Mac Go.Proofs.YtcgkgaibomcheaaGreat.Mb Go.Proofs.YtcgkgaibomcheaaGreat.Rd Go.Proofs.YtcgkgaibomcheaaGreat.RDec Go.Proofs.YtcgkgaibomcheaaGreat.EM Go.Proofs.YtcgkgaibomcheaaGreat.Fill Go.Proofs.YtcgkgaibomcheaaGreat.NewM Go.Proofs.YtcgkgaibomcheaaGreat.NewE Go.Proofs.YtcgkgaibomcheaaGreat.PRvemuRuns Go.Proofs.YtcgkgaibomcheaaGreatW.PrintWords Go.Proofs.YtcgkgaibomcheaaGreatW.PrintLast Go.Proofs.YtcgkgaibomcheaaGreatW.PrintMore
set_option linter.unusedVariables false
set_option linter.unusedSimpArgs false

theorem filled_form {W w' : World} {v : Value} {l : List Int} {n : Nat} (h : Filled W v l n w') (hn : 0 < n) : ∃ gd cd, v = .slice (some ⟨gd, 0, none⟩) n cd ∧ n ≤ cd := by
  obtain ⟨A, c, e, hc, hr⟩ := h.1
  rw [pad_len] at e hc
  rcases hr with hr | ⟨b, hb, _⟩
  · have := pad_len l n
    rw [hr] at this
    simp at this
    omega
  · subst hb
    exact ⟨b, c, e, hc⟩
set_option maxRecDepth 20000 in
set_option maxHeartbeats 1000000 in
theorem news (cA dA rA sA : Option Addr) (cc dc rc sc : Nat) (lc ld ls lr : List Int) (fr fu : Int) (w : World)
    (hc : (Kd.int .u8).C w cA lc.length lc) (hlc : lc.length ≤ 140737488355328) (hd : (Kd.int .u8).C w dA ld.length ld) (hr : (Kd.int .u64).C w rA lr.length lr) (hs : (Kd.int .u8).C w sA ls.length ls) (hbd : isBytes ld) (hbs : isBytes ls) (hwr : isWords lr) :
    Calls Tryz.prog 19 #[.agg #[.slice cA lc.length cc, .slice dA ld.length dc, .slice rA lr.length rc, .slice sA ls.length sc, .int .i64 fr, .int .i64 fu]] w fun e w' => ∃ g gm c d f, e = .returned (.pointer (some ⟨g, 0, none⟩)) ∧ Out w.heap.size w' g gm c d f (newM lc ld lr ls fr fu) ∧ Below w.heap.size w w' := by
  have hbz := below_alloc (Below.refl w.heap.size w) (.cells #[.slice cA lc.length cc, .slice dA ld.length dc, .slice rA lr.length rc, .slice sA ls.length sc, .int .i64 fr, .int .i64 fu] 25)
  have HC33 := Aside0.mk (show ∀ W1, Below w.heap.size w W1 → Calls Tryz.prog 33 #[.slice cA lc.length cc] W1 fun e w' => ∃ A1 c1, e = .returned (.slice A1 lc.length c1) ∧ Kd.R (Kd.int .u8) 5 w' W1.heap.size (fun _ => True) (.slice A1 lc.length c1) lc ∧ Below W1.heap.size W1 w' from fun W1 hb => by
    refine (Clone.clone33 cA cc lc W1 (Kd.C_below hc hb) (by omega)).mono fun e w' hh => ?_
    obtain ⟨v, he, hr, hb⟩ := hh
    obtain ⟨A1, c1, hv⟩ := Kd.R_slice hr
    subst hv
    exact ⟨A1, c1, he, hr, hb⟩)
  have HC34 := Aside0.mk (show ∀ W1, Below w.heap.size w W1 → Calls Tryz.prog 34 #[.slice dA ld.length dc, .int .i64 64] W1 fun e w' => ∃ gd cd, e = .returned (.slice (some ⟨gd, 0, none⟩) 64 cd) ∧ 64 ≤ cd ∧ Filled W1 (.slice (some ⟨gd, 0, none⟩) 64 cd) ld 64 w' ∧ Below W1.heap.size W1 w' from fun W1 hb => by
    refine (filled34 dA dc ld 64 W1 (Kd.C_below hd hb) (by omega)).mono fun e w' hh => ?_
    obtain ⟨v, he, hr⟩ := hh
    obtain ⟨gd, cd, ev, h64⟩ := filled_form hr (by omega)
    subst ev
    exact ⟨gd, cd, he, h64, hr, hr.2.2⟩)
  have hB := blk_new w (.cells #[.slice cA lc.length cc, .slice dA ld.length dc, .slice rA lr.length rc, .slice sA ls.length sc, .int .i64 fr, .int .i64 fu] 25)
  have HRC := Aside0.mk hr
  have HBD := Aside0.mk hbd
  have HBS := Aside0.mk hbs
  have HWR := Aside0.mk hwr
  have HS34 := Aside0.mk (show ∀ W1, Below w.heap.size w W1 → 0 ≤ fr → fr ≤ 1048576 → Calls Tryz.prog 34 #[.slice sA ls.length sc, .int .i64 fr] W1 fun e w' => ∃ f, e = .returned f ∧ Filled W1 f ls fr.toNat w' from fun W1 hb h0 h1 => by
    have hx := filled34 sA sc ls fr.toNat W1 (Kd.C_below hs hb) (by omega)
    rw [Int.toNat_of_nonneg h0] at hx
    exact hx)
  clear hc hd hr hs hbd hbs hwr
  obtain ⟨nC, hnC⟩ : ∃ nC, lc.length = nC := ⟨_, rfl⟩
  obtain ⟨nD, hnD⟩ : ∃ nD, ld.length = nD := ⟨_, rfl⟩
  obtain ⟨nR, hnR⟩ : ∃ nR, lr.length = nR := ⟨_, rfl⟩
  obtain ⟨nS, hnS⟩ : ∃ nS, ls.length = nS := ⟨_, rfl⟩
  have NC := Aside0.mk hnC
  have ND := Aside0.mk hnD
  have NR := Aside0.mk hnR
  have NS := Aside0.mk hnS
  rw [hnC] at HC33 hlc hB hbz
  rw [hnD] at HC34 hB hbz
  rw [hnR, hnS] at hB hbz
  rw [hnS] at HS34
  rw [hnC, hnD, hnR, hnS]
  clear hnC hnD hnR hnS
  go_enter Tryz.func19, Tryz.ntmps19
  go_wp2_with fail
  obtain ⟨W0, hW0⟩ : ∃ W0, w.alloc (.cells #[.slice cA nC cc, .slice dA nD dc, .slice rA nR rc, .slice sA nS sc, .int .i64 fr, .int .i64 fu] 25) = W0 := ⟨_, rfl⟩
  rw [hW0] at hB hbz ⊢
  have HB0 := Aside0.mk hB
  have HBZ := Aside0.mk hbz
  have HSZ := Aside0.mk (show W0.heap.size = w.heap.size + 1 from by rw [← hW0, World.size_alloc])
  have x0 := blk_cell HB0.out 0
  have x1 := blk_cell HB0.out 1
  have x5 := blk_cell HB0.out 5
  simp only [List.getElem?_toArray, List.getElem?_cons_zero, List.getElem?_cons_succ] at x0 x1 x5
  have HW0 := Aside0.mk hW0
  clear hW0 hB hbz
  have L := below_drew1 (Below.refl W0.heap.size W0)
  refine start_ (n := 12) (S := fun w' => w'.cell? ⟨w.heap.size, 0, none⟩ = some (.slice cA nC cc) ∧ w'.cell? ⟨w.heap.size, 1, none⟩ = some (.slice dA nD dc) ∧ w'.cell? ⟨w.heap.size, 5, none⟩ = some (.int .i64 fu)) (ds := []) #[false, false, false, false, false, false, false, false, false, false, false, false] (by kernel_rfl) rfl rfl ⟨kB L x0, kB L x1, kB L x5⟩ (fun hHeld => ?_)
  refine pure_ (i := 0) (N := some 4) (v := ?_) (a' := ?_) #[true, false, false, false, false, false, false, false, false, false, false, false] rfl rfl (by kernel_rfl) (fun _ _ _ h => h) (Or.inl ⟨by rfl, ?_⟩) ?_ ?_
  rotate_left
  · intro w'
    go_simp
    with_reducible rfl
  rotate_left
  · simp only [Act.put, List.setIfInBounds_toArray, List.set_cons_zero, List.set_cons_succ, i64_w, i32_w]
    rfl
  refine pure_ (i := 3) (N := some 7) (v := ?_) (a' := ?_) #[true, false, false, true, false, false, false, false, false, false, false, false] rfl rfl (by kernel_rfl) (fun _ _ _ h => h) (Or.inl ⟨by rfl, ?_⟩) ?_ ?_
  rotate_left
  · intro w'
    go_simp
    with_reducible rfl
  rotate_left
  · simp only [Act.put, List.setIfInBounds_toArray, List.set_cons_zero, List.set_cons_succ, i64_w, i32_w]
    rfl
  refine pure_ (i := 6) (N := some 10) (v := ?_) (a' := ?_) #[true, false, false, true, false, false, true, false, false, false, false, false] rfl rfl (by kernel_rfl) (fun _ _ _ h => h) (Or.inl ⟨by rfl, ?_⟩) ?_ ?_
  rotate_left
  · intro w'
    go_simp
    with_reducible rfl
  rotate_left
  · simp only [Act.put, List.setIfInBounds_toArray, List.set_cons_zero, List.set_cons_succ, i64_w, i32_w]
    rfl
  refine take_ (i := 1) (N := some 5) (v := ?_) (a' := ?_) #[true, true, false, true, false, false, true, false, false, false, false, false] rfl rfl (by kernel_rfl) (fun _ _ _ h => h) (Or.inl ⟨by rfl, ?_⟩) hHeld ?_ ?_
  rotate_left
  · rintro w' ⟨s0, s1, s2⟩
    go_simp
    with_reducible rfl
  rotate_left
  · simp only [Act.put, List.setIfInBounds_toArray, List.set_cons_zero, List.set_cons_succ, i64_w, i32_w]
    rfl
  refine take_ (i := 4) (N := some 8) (v := ?_) (a' := ?_) #[true, true, false, true, true, false, true, false, false, false, false, false] rfl rfl (by kernel_rfl) (fun _ _ _ h => h) (Or.inl ⟨by rfl, ?_⟩) hHeld ?_ ?_
  rotate_left
  · rintro w' ⟨s0, s1, s2⟩
    go_simp
    with_reducible rfl
  rotate_left
  · simp only [Act.put, List.setIfInBounds_toArray, List.set_cons_zero, List.set_cons_succ, i64_w, i32_w]
    rfl
  refine take_ (i := 7) (N := some 11) (v := ?_) (a' := ?_) #[true, true, false, true, true, false, true, true, false, false, false, false] rfl rfl (by kernel_rfl) (fun _ _ _ h => h) (Or.inl ⟨by rfl, ?_⟩) hHeld ?_ ?_
  rotate_left
  · rintro w' ⟨s0, s1, s2⟩
    go_simp
    with_reducible rfl
  rotate_left
  · simp only [Act.put, List.setIfInBounds_toArray, List.set_cons_zero, List.set_cons_succ, i64_w, i32_w]
    rfl
  refine one_ (i := 2) (N := some 6) #[true, true, true, true, true, false, true, true, false, false, false, false] rfl rfl (by kernel_rfl) (by decide) (fun K hK => ?_)
  refine goes_ Tryz.func33 (by kernel_rfl) rfl #[.slice cA nC cc] (by rfl) rfl rfl (by simp only [List.map_toArray, List.map_cons, List.map_nil]; rfl) ?_
  with_reducible refine (HC33.out _ (below_step HBZ.out L)).mono ?_
  rintro e w9 ⟨A1, c1, rfl, hcode, hb2⟩
  refine ⟨_, rfl, ?_⟩
  have hcode := Aside0.mk hcode
  have L := below_step L hb2
  have HB9 := Aside0.mk hb2
  refine hK.out _ _ ⟨kB L x0, kB L x1, kB L x5⟩ (fun hHeld => ?_)
  clear hK K
  refine norm_ (a' := ?_) ?_ ?_
  rotate_left
  · show Act.put _ (some 6) _ = _
    simp only [Act.put, List.setIfInBounds_toArray, List.set_cons_zero, List.set_cons_succ, i64_w, i32_w]
    rfl
  refine one_ (i := 5) (N := some 9) #[true, true, true, true, true, true, true, true, false, false, false, false] rfl rfl (by kernel_rfl) (by decide) (fun K hK => ?_)
  refine goes_ Tryz.func34 (by kernel_rfl) rfl #[.slice dA nD dc, .int .i64 64] (by rfl) rfl rfl (by simp only [List.map_toArray, List.map_cons, List.map_nil]; rfl) ?_
  with_reducible refine (HC34.out _ (below_step HBZ.out L)).mono ?_
  rintro e w10 ⟨gd, cd, rfl, hcd, hdata, hb5⟩
  refine ⟨_, rfl, ?_⟩
  have HCD := Aside0.mk hcd
  have hle9 := (below_step HBZ.out L).size
  clear hcd
  have hdata := Aside0.mk hdata
  have hcode := Aside0.mk (Kd.R_below hcode.out hb5)
  have L := below_step L hb5
  refine hK.out _ _ ⟨kB L x0, kB L x1, kB L x5⟩ (fun hHeld => ?_)
  clear hK K
  refine norm_ (a' := ?_) ?_ ?_
  rotate_left
  · show Act.put _ (some 9) _ = _
    simp only [Act.put, List.setIfInBounds_toArray, List.set_cons_zero, List.set_cons_succ, i64_w, i32_w]
    rfl
  refine one_ (i := 8) (N := some 12) #[true, true, true, true, true, true, true, true, true, false, false, false] rfl rfl (by kernel_rfl) (by decide) (fun K hK => ?_)
  refine goes_ Tryz.func35 (by kernel_rfl) rfl #[] (by rfl) rfl rfl (by first | rfl | (simp only [List.map_toArray, List.map_cons, List.map_nil]; done)) ?_
  with_reducible refine (Tab.calls _).mono ?_
  rintro e w11 ⟨rfl, hmap, hb8⟩
  refine ⟨_, rfl, ?_⟩
  have hmap := Aside0.mk hmap
  have HB8 := Aside0.mk hb8
  have L := below_step L hb8
  clear hb8
  refine hK.out _ _ ⟨kB L x0, kB L x1, kB L x5⟩ (fun hHeld => ?_)
  clear hK K
  refine norm_ (a' := ?_) ?_ ?_
  rotate_left
  · show Act.put _ (some 12) _ = _
    simp only [Act.put, List.setIfInBounds_toArray, List.set_cons_zero, List.set_cons_succ, i64_w, i32_w]
    rfl
  refine pure_ (i := 9) (N := some 13) (v := ?_) (a' := ?_) #[true, true, true, true, true, true, true, true, true, true, false, false] rfl rfl (by kernel_rfl) (fun _ _ _ h => h) (Or.inl ⟨by rfl, ?_⟩) ?_ ?_
  rotate_left
  · intro w'
    go_simp
    with_reducible rfl
  rotate_left
  · simp only [Act.put, List.setIfInBounds_toArray, List.set_cons_zero, List.set_cons_succ, i64_w, i32_w]
    rfl
  refine one_ (i := 10) (N := some 14) #[true, true, true, true, true, true, true, true, true, true, true, false] rfl rfl (by kernel_rfl) (by decide) (fun K hK => ?_)
  refine value_ (w1 := ?_) (v := ?_) (by rfl) rfl ?_ ?_
  rotate_left 2
  · go_simp
    constructor
    · rfl
    · rfl
  have L11 := L
  obtain ⟨W12, hW12⟩ : ∃ W12, w11.alloc (.cells (bareCells fu (.slice A1 nC c1) (.slice (some ⟨gd, 0, none⟩) 64 cd) (.map (some w10.heap.size))) 74) = W12 := ⟨_, rfl⟩
  have hblk := blk_new w11 (.cells (bareCells fu (.slice A1 nC c1) (.slice (some ⟨gd, 0, none⟩) 64 cd) (.map (some w10.heap.size))) 74)
  have L := below_alloc L (.cells (bareCells fu (.slice A1 nC c1) (.slice (some ⟨gd, 0, none⟩) 64 cd) (.map (some w10.heap.size))) 74)
  rw [hW12] at L hblk
  have HBLK := Aside0.mk hblk
  refine swapw (W := W12) hW12.symm ?_
  refine hK.out _ _ ⟨kB L x0, kB L x1, kB L x5⟩ (fun hHeld => ?_)
  clear hK K
  refine norm_ (a' := ?_) ?_ ?_
  rotate_left
  · show Act.put _ (some 14) _ = _
    simp only [Act.put, List.setIfInBounds_toArray, List.set_cons_zero, List.set_cons_succ, i64_w, i32_w]
    rfl
  refine pure_ (i := 11) (N := some 3) (v := ?_) (a' := ?_) #[true, true, true, true, true, true, true, true, true, true, true, true] rfl rfl (by kernel_rfl) (fun _ _ _ h => h) (Or.inl ⟨by rfl, ?_⟩) ?_ ?_
  rotate_left
  · intro w'
    go_simp
    with_reducible rfl
  rotate_left
  · simp only [Act.put, List.setIfInBounds_toArray, List.set_cons_zero, List.set_cons_succ, i64_w, i32_w]
    rfl
  refine done_ (by kernel_rfl) ?_

  have hp0 := pre_new (.cells (bareCells fu (.slice A1 nC c1) (.slice (some ⟨gd, 0, none⟩) 64 cd) (.map (some w10.heap.size))) 74) (show w.heap.size ≤ W0.drew.heap.size from HBZ.out.size) (by rw [NC.out]; exact hcode.out) hdata.out hle9 hmap.out HB8.out
  rw [hW12, NC.out] at hp0
  have HP := Aside0.mk hp0
  have HENV := Aside0.mk (blk_below HB0.out L)
  have HEG := Aside0.mk (show w.heap.size < w11.heap.size from by
    have h1 := HB8.out.size
    have h2 := hdata.out.2.2.size
    have h3 := HB9.out.size
    have h4 := HSZ.out
    have h5 : W0.drew.heap.size = W0.heap.size := rfl
    omega)
  have HL := Aside0.mk (below_step HBZ.out L)
  have HCELLS := Aside0.mk (cells_bare lc ld fu (.slice A1 nC c1) (.slice (some ⟨gd, 0, none⟩) 64 cd) (.map (some w10.heap.size)))
  have x2 := blk_cell HENV.out 2
  have y4 := blk_cell HENV.out 4
  have y3 := blk_cell HENV.out 3
  simp only [List.getElem?_toArray, List.getElem?_cons_zero, List.getElem?_cons_succ] at x2 y3 y4
  clear hcode hdata hmap hle9 HB8 HB9 hHeld x0 x1 x5 HC33 HC34 HSZ HW0 HBZ HB0 L L11 hp0 hW12 hblk
  generalize w11.heap.size = g at *
  generalize w10.heap.size = gm at *
  obtain ⟨cells, hcells⟩ : ∃ cells, bareCells fu (.slice A1 nC c1) (.slice (some ⟨gd, 0, none⟩) 64 cd) (.map (some gm)) = cells := ⟨_, rfl⟩
  rw [hcells] at HBLK HCELLS
  clear hcells
  have HSIZE := Aside0.mk (show 42 ≤ cells.size from by
    have := (Array.getElem?_eq_some_iff.1 (HCELLS.out 41 (by omega))).1
    omega)
  have HLEN := Aside0.mk (show ((lr.take 32).map (Value.int .u64)).length = Nat.min nR 32 from by rw [src_len, NR.out])
  have HFIT := Aside0.mk (show 3 + ((lr.take 32).map (Value.int .u64)).length ≤ cells.toList.length from by
    have h1 := src_len (k := .u64) lr 32
    have h2 : Nat.min lr.length 32 ≤ 32 := Nat.min_le_right _ _
    have h3 := HSIZE.out
    rw [h1, Array.length_toList (xs := cells)]
    omega)
  have HPOS := Aside0.mk (fun h_ => (src34 (X := True) (n := 32) trivial HRC.out (below_drew1 HL.out) h_).2)
  go_wp2_with fail
  refine start_ (n := 7) (S := fun w' => w'.cell? ⟨w.heap.size, 2, none⟩ = some (.slice rA nR rc)) (ds := []) #[false, false, false, false, false, false, false] (by kernel_rfl) rfl rfl (x2) (fun hHeld => ?_)
  refine pure_ (i := 0) (N := some 15) (v := ?_) (a' := ?_) #[true, false, false, false, false, false, false] rfl rfl (by kernel_rfl) (fun _ _ _ h => h) (Or.inl ⟨by rfl, ?_⟩) ?_ ?_
  rotate_left
  · intro w'
    go_simp
    with_reducible rfl
  rotate_left
  · simp only [Act.put, List.setIfInBounds_toArray, List.set_cons_zero, List.set_cons_succ, i64_w, i32_w]
    rfl
  refine pure_ (i := 1) (N := some 16) (v := ?_) (a' := ?_) #[true, true, false, false, false, false, false] rfl rfl (by kernel_rfl) (fun _ _ _ h => h) (Or.inl ⟨by rfl, ?_⟩) ?_ ?_
  rotate_left
  · intro w'
    go_simp
    with_reducible rfl
  rotate_left
  · simp only [Act.put, List.setIfInBounds_toArray, List.set_cons_zero, List.set_cons_succ, i64_w, i32_w]
    rfl
  refine pure_ (i := 2) (N := some 17) (v := ?_) (a' := ?_) #[true, true, true, false, false, false, false] rfl rfl (by kernel_rfl) (fun _ _ _ h => h) (Or.inl ⟨by rfl, ?_⟩) ?_ ?_
  rotate_left
  · intro w'
    go_simp
    with_reducible rfl
  rotate_left
  · simp only [Act.put, List.setIfInBounds_toArray, List.set_cons_zero, List.set_cons_succ, i64_w, i32_w]
    rfl
  refine pure_ (i := 3) (N := some 18) (v := ?_) (a' := ?_) #[true, true, true, true, false, false, false] rfl rfl (by kernel_rfl) (fun _ _ _ h => h) (Or.inl ⟨by rfl, ?_⟩) ?_ ?_
  rotate_left
  · intro w'
    go_simp
    with_reducible rfl
  rotate_left
  · simp only [Act.put, List.setIfInBounds_toArray, List.set_cons_zero, List.set_cons_succ, i64_w, i32_w]
    rfl
  refine pure_ (i := 4) (N := some 19) (v := ?_) (a' := ?_) #[true, true, true, true, true, false, false] rfl rfl (by kernel_rfl) (fun _ _ _ h => h) (Or.inl ⟨by rfl, ?_⟩) ?_ ?_
  rotate_left
  · intro w'
    go_simp
    with_reducible rfl
  rotate_left
  · simp only [Act.put, List.setIfInBounds_toArray, List.set_cons_zero, List.set_cons_succ, i64_w, i32_w]
    rfl
  refine take_ (i := 5) (N := some 20) (v := ?_) (a' := ?_) #[true, true, true, true, true, true, false] rfl rfl (by kernel_rfl) (fun _ _ _ h => h) (Or.inl ⟨by rfl, ?_⟩) hHeld ?_ ?_
  rotate_left
  · intro w' s0
    go_simp
    with_reducible rfl
  rotate_left
  · simp only [Act.put, List.setIfInBounds_toArray, List.set_cons_zero, List.set_cons_succ, i64_w, i32_w]
    rfl
  refine one_ (i := 6) (N := some 21) #[true, true, true, true, true, true, true] rfl rfl (by kernel_rfl) (by decide) (fun K hK => ?_)
  refine step_copy_splice rfl (.tmp 18) (.tmp 20) 23 23 rfl 52 Tryz.underlying23 (by kernel_rfl) _ _ _ _ _ _ rfl rfl g 3 cells.toList 74 HBLK.out ((lr.take 32).map (Value.int .u64)) HLEN.out (fun h_ => ⟨rfl, HPOS.out h_⟩) HFIT.out (src_one lr 32) g W12.drew (Below.refl _ _) (Nat.le_refl g) ?_
  intro w13 hg13 hb13
  have HG13 := Aside0.mk hg13.out
  have HB13 := Aside0.mk hb13
  clear hg13 hb13
  refine hK.out _ _ ((HB13.out.cell HEG.out).trans x2) (fun hHeld => ?_)
  clear hK K
  refine norm_ (a' := ?_) ?_ ?_
  rotate_left
  · show Act.put _ (some 21) _ = _
    simp only [Act.put, List.setIfInBounds_toArray, List.set_cons_zero, List.set_cons_succ, i64_w, i32_w]
    rfl
  refine done_ (by kernel_rfl) ?_

  have M0 := Aside0.mk (show MB 74 42 w13 g _ from mb_copy HCELLS.out (by omega) HWR.out HG13.out)
  have HHK := Aside0.mk (show ∀ k, k < g → w13.heap[k]? = W12.heap[k]? from fun k hk => HB13.out.block k hk)
  have HP13 := Aside0.mk (HP.out.step HHK.out)
  have HBE := Aside0.mk (show Below w.heap.size w w13 from ⟨HB13.out.os.trans HL.out.os, HB13.out.tape.trans HL.out.tape, HB13.out.output.trans HL.out.output, Nat.le_trans HL.out.size HB13.out.size, fun k hk => (HB13.out.block k (by have := HEG.out; omega)).trans (HL.out.block k hk)⟩)
  have HENV13 := Aside0.mk ((HHK.out _ HEG.out).trans HENV.out)
  clear hHeld x2 y3 y4 HHK HB13 HG13 HP HL HENV HBLK HCELLS HSIZE HLEN HFIT HPOS HRC
  have c0_ : w13.cell? ⟨g, 3, none⟩ = some _ := M0.out.cell 3 (by omega)
  have c1_ : w13.cell? ⟨g, 4, none⟩ = some _ := M0.out.cell 4 (by omega)
  have c2_ : w13.cell? ⟨g, 5, none⟩ = some _ := M0.out.cell 5 (by omega)
  have c10_ : w13.cell? ⟨g, 13, none⟩ = some _ := M0.out.cell 13 (by omega)
  have e0_ : w13.frozen? ⟨g, 3, none⟩ = false := M0.out.frozen 3
  have e1_ : w13.frozen? ⟨g, 4, none⟩ = false := M0.out.frozen 4
  have e2_ : w13.frozen? ⟨g, 5, none⟩ = false := M0.out.frozen 5
  have e10_ : w13.frozen? ⟨g, 13, none⟩ = false := M0.out.frozen 13
  go_wp2_with fail
  refine start_ (n := 20) (S := fun w' => True) (ds := []) #[false, false, false, false, false, false, false, false, false, false, false, false, false, false, false, false, false, false, false, false] (by kernel_rfl) rfl rfl trivial (fun hHeld => ?_)
  refine pure_ (i := 0) (N := some 22) (v := ?_) (a' := ?_) #[true, false, false, false, false, false, false, false, false, false, false, false, false, false, false, false, false, false, false, false] rfl rfl (by kernel_rfl) (fun _ _ _ h => h) (Or.inl ⟨by rfl, ?_⟩) ?_ ?_
  rotate_left
  · intro w'
    go_simp
    with_reducible rfl
  rotate_left
  · simp only [Act.put, List.setIfInBounds_toArray, List.set_cons_zero, List.set_cons_succ, i64_w, i32_w]
    rfl
  refine pure_ (i := 1) (N := some 23) (v := ?_) (a' := ?_) #[true, true, false, false, false, false, false, false, false, false, false, false, false, false, false, false, false, false, false, false] rfl rfl (by kernel_rfl) (fun _ _ _ h => h) (Or.inl ⟨by rfl, ?_⟩) ?_ ?_
  rotate_left
  · intro w'
    go_simp
    with_reducible rfl
  rotate_left
  · simp only [Act.put, List.setIfInBounds_toArray, List.set_cons_zero, List.set_cons_succ, i64_w, i32_w]
    rfl
  refine pure_ (i := 2) (N := some 24) (v := ?_) (a' := ?_) #[true, true, true, false, false, false, false, false, false, false, false, false, false, false, false, false, false, false, false, false] rfl rfl (by kernel_rfl) (fun _ _ _ h => h) (Or.inl ⟨by rfl, ?_⟩) ?_ ?_
  rotate_left
  · intro w'
    go_simp
    with_reducible rfl
  rotate_left
  · simp only [Act.put, List.setIfInBounds_toArray, List.set_cons_zero, List.set_cons_succ, i64_w, i32_w]
    rfl
  refine pure_ (i := 3) (N := some 25) (v := ?_) (a' := ?_) #[true, true, true, true, false, false, false, false, false, false, false, false, false, false, false, false, false, false, false, false] rfl rfl (by kernel_rfl) (fun _ _ _ h => h) (Or.inl ⟨by rfl, ?_⟩) ?_ ?_
  rotate_left
  · intro w'
    go_simp
    with_reducible rfl
  rotate_left
  · simp only [Act.put, List.setIfInBounds_toArray, List.set_cons_zero, List.set_cons_succ, i64_w, i32_w]
    rfl
  refine pure_ (i := 4) (N := some 26) (v := ?_) (a' := ?_) #[true, true, true, true, true, false, false, false, false, false, false, false, false, false, false, false, false, false, false, false] rfl rfl (by kernel_rfl) (fun _ _ _ h => h) (Or.inl ⟨by rfl, ?_⟩) ?_ ?_
  rotate_left
  · intro w'
    go_simp
    with_reducible rfl
  rotate_left
  · simp only [Act.put, List.setIfInBounds_toArray, List.set_cons_zero, List.set_cons_succ, i64_w, i32_w]
    rfl
  refine pure_ (i := 5) (N := some 27) (v := ?_) (a' := ?_) #[true, true, true, true, true, true, false, false, false, false, false, false, false, false, false, false, false, false, false, false] rfl rfl (by kernel_rfl) (fun _ _ _ h => h) (Or.inl ⟨by rfl, ?_⟩) ?_ ?_
  rotate_left
  · intro w'
    go_simp
    with_reducible rfl
  rotate_left
  · simp only [Act.put, List.setIfInBounds_toArray, List.set_cons_zero, List.set_cons_succ, i64_w, i32_w]
    rfl
  refine pure_ (i := 6) (N := some 28) (v := ?_) (a' := ?_) #[true, true, true, true, true, true, true, false, false, false, false, false, false, false, false, false, false, false, false, false] rfl rfl (by kernel_rfl) (fun _ _ _ h => h) (Or.inl ⟨by rfl, ?_⟩) ?_ ?_
  rotate_left
  · intro w'
    go_simp
    with_reducible rfl
  rotate_left
  · simp only [Act.put, List.setIfInBounds_toArray, List.set_cons_zero, List.set_cons_succ, i64_w, i32_w]
    rfl
  refine pure_ (i := 8) (N := some 29) (v := ?_) (a' := ?_) #[true, true, true, true, true, true, true, false, true, false, false, false, false, false, false, false, false, false, false, false] rfl rfl (by kernel_rfl) (fun _ _ _ h => h) (Or.inl ⟨by rfl, ?_⟩) ?_ ?_
  rotate_left
  · intro w'
    go_simp
    with_reducible rfl
  rotate_left
  · simp only [Act.put, List.setIfInBounds_toArray, List.set_cons_zero, List.set_cons_succ, i64_w, i32_w]
    rfl
  refine pure_ (i := 9) (N := some 30) (v := ?_) (a' := ?_) #[true, true, true, true, true, true, true, false, true, true, false, false, false, false, false, false, false, false, false, false] rfl rfl (by kernel_rfl) (fun _ _ _ h => h) (Or.inl ⟨by rfl, ?_⟩) ?_ ?_
  rotate_left
  · intro w'
    go_simp
    with_reducible rfl
  rotate_left
  · simp only [Act.put, List.setIfInBounds_toArray, List.set_cons_zero, List.set_cons_succ, i64_w, i32_w]
    rfl
  refine pure_ (i := 12) (N := some 32) (v := ?_) (a' := ?_) #[true, true, true, true, true, true, true, false, true, true, false, false, true, false, false, false, false, false, false, false] rfl rfl (by kernel_rfl) (fun _ _ _ h => h) (Or.inl ⟨by rfl, ?_⟩) ?_ ?_
  rotate_left
  · intro w'
    go_simp
    with_reducible rfl
  rotate_left
  · simp only [Act.put, List.setIfInBounds_toArray, List.set_cons_zero, List.set_cons_succ, i64_w, i32_w]
    rfl
  refine pure_ (i := 13) (N := some 33) (v := ?_) (a' := ?_) #[true, true, true, true, true, true, true, false, true, true, false, false, true, true, false, false, false, false, false, false] rfl rfl (by kernel_rfl) (fun _ _ _ h => h) (Or.inl ⟨by rfl, ?_⟩) ?_ ?_
  rotate_left
  · intro w'
    go_simp
    with_reducible rfl
  rotate_left
  · simp only [Act.put, List.setIfInBounds_toArray, List.set_cons_zero, List.set_cons_succ, i64_w, i32_w]
    rfl
  refine pure_ (i := 16) (N := some 35) (v := ?_) (a' := ?_) #[true, true, true, true, true, true, true, false, true, true, false, false, true, true, false, false, true, false, false, false] rfl rfl (by kernel_rfl) (fun _ _ _ h => h) (Or.inl ⟨by rfl, ?_⟩) ?_ ?_
  rotate_left
  · intro w'
    go_simp
    with_reducible rfl
  rotate_left
  · simp only [Act.put, List.setIfInBounds_toArray, List.set_cons_zero, List.set_cons_succ, i64_w, i32_w]
    rfl
  refine pure_ (i := 17) (N := some 36) (v := ?_) (a' := ?_) #[true, true, true, true, true, true, true, false, true, true, false, false, true, true, false, false, true, true, false, false] rfl rfl (by kernel_rfl) (fun _ _ _ h => h) (Or.inl ⟨by rfl, ?_⟩) ?_ ?_
  rotate_left
  · intro w'
    go_simp
    with_reducible rfl
  rotate_left
  · simp only [Act.put, List.setIfInBounds_toArray, List.set_cons_zero, List.set_cons_succ, i64_w, i32_w]
    rfl
  refine one_ (i := 7) (N := none) #[true, true, true, true, true, true, true, true, true, true, false, false, true, true, false, false, true, true, false, false] rfl rfl (by kernel_rfl) (by decide) (fun K hK => ?_)
  refine skip_ (w1 := ?_) (by rfl) rfl ?_ ?_
  rotate_left
  · go_simp
    rfl
  refine hK.out _ _ trivial (fun hHeld => ?_)
  clear hK K
  refine pure_ (i := 10) (N := some 31) (v := ?_) (a' := ?_) #[true, true, true, true, true, true, true, true, true, true, true, false, true, true, false, false, true, true, false, false] rfl rfl (by kernel_rfl) (fun _ _ _ h => h) (Or.inl ⟨by rfl, ?_⟩) ?_ ?_
  rotate_left
  · intro w'
    go_simp
    with_reducible rfl
  rotate_left
  · simp only [Act.put, List.setIfInBounds_toArray, List.set_cons_zero, List.set_cons_succ, i64_w, i32_w]
    rfl
  refine one_ (i := 11) (N := none) #[true, true, true, true, true, true, true, true, true, true, true, true, true, true, false, false, true, true, false, false] rfl rfl (by kernel_rfl) (by decide) (fun K hK => ?_)
  refine skip_ (w1 := ?_) (by rfl) rfl ?_ ?_
  rotate_left
  · go_simp
    rfl
  refine hK.out _ _ trivial (fun hHeld => ?_)
  clear hK K
  refine pure_ (i := 14) (N := some 34) (v := ?_) (a' := ?_) #[true, true, true, true, true, true, true, true, true, true, true, true, true, true, true, false, true, true, false, false] rfl rfl (by kernel_rfl) (fun _ _ _ h => h) (Or.inl ⟨by rfl, ?_⟩) ?_ ?_
  rotate_left
  · intro w'
    go_simp
    with_reducible rfl
  rotate_left
  · simp only [Act.put, List.setIfInBounds_toArray, List.set_cons_zero, List.set_cons_succ, i64_w, i32_w]
    rfl
  refine one_ (i := 15) (N := none) #[true, true, true, true, true, true, true, true, true, true, true, true, true, true, true, true, true, true, false, false] rfl rfl (by kernel_rfl) (by decide) (fun K hK => ?_)
  refine skip_ (w1 := ?_) (by rfl) rfl ?_ ?_
  rotate_left
  · go_simp
    rfl
  refine hK.out _ _ trivial (fun hHeld => ?_)
  clear hK K
  refine pure_ (i := 18) (N := some 37) (v := ?_) (a' := ?_) #[true, true, true, true, true, true, true, true, true, true, true, true, true, true, true, true, true, true, true, false] rfl rfl (by kernel_rfl) (fun _ _ _ h => h) (Or.inl ⟨by rfl, ?_⟩) ?_ ?_
  rotate_left
  · intro w'
    go_simp
    with_reducible rfl
  rotate_left
  · simp only [Act.put, List.setIfInBounds_toArray, List.set_cons_zero, List.set_cons_succ, i64_w, i32_w]
    rfl
  refine one_ (i := 19) (N := none) #[true, true, true, true, true, true, true, true, true, true, true, true, true, true, true, true, true, true, true, true] rfl rfl (by kernel_rfl) (by decide) (fun K hK => ?_)
  refine skip_ (w1 := ?_) (by rfl) rfl ?_ ?_
  rotate_left
  · go_simp
    rfl
  refine hK.out _ _ trivial (fun hHeld => ?_)
  clear hK K
  refine done_ (by kernel_rfl) ?_

  have hm4 := mb_setr (mb_setr (mb_setr (mb_setr M0.out 0 (by omega) 0#64 0 rfl) 1 (by omega) 412316860416#64 412316860416 rfl) 2 (by omega) 2147418112#64 2147418112 rfl) 10 (by omega) 65536#64 65536 rfl
  rw [entry_setr] at hm4
  have HM4 := Aside0.mk (show MB 74 42 ((((w13.setCell ⟨g, 3, none⟩ (.int .u64 0)).setCell ⟨g, 4, none⟩ (.int .u64 412316860416)).setCell ⟨g, 5, none⟩ (.int .u64 2147418112)).setCell ⟨g, 13, none⟩ (.int .u64 65536)).drew g _ from hm4)
  have hk4 : ∀ k, k < g → (((((w13.setCell ⟨g, 3, none⟩ (.int .u64 0)).setCell ⟨g, 4, none⟩ (.int .u64 412316860416)).setCell ⟨g, 5, none⟩ (.int .u64 2147418112)).setCell ⟨g, 13, none⟩ (.int .u64 65536)).drew).heap[k]? = w13.heap[k]? := fun k hk => by
    have hne : k ≠ g := Nat.ne_of_lt hk
    exact (Below.heap_setCell _ _ _ k hne).trans ((Below.heap_setCell _ _ _ k hne).trans ((Below.heap_setCell _ _ _ k hne).trans (Below.heap_setCell _ _ _ k hne)))
  have HP4 := Aside0.mk (HP13.out.step hk4)
  have HENV4 := Aside0.mk ((hk4 _ HEG.out).trans HENV13.out)
  have hgw : w.heap.size ≤ g := Nat.le_of_lt HEG.out
  have HB4 := Aside0.mk (show Below w.heap.size w ((((w13.setCell ⟨g, 3, none⟩ (.int .u64 0)).setCell ⟨g, 4, none⟩ (.int .u64 412316860416)).setCell ⟨g, 5, none⟩ (.int .u64 2147418112)).setCell ⟨g, 13, none⟩ (.int .u64 65536)).drew from below_drew1 ((((HBE.out.setCell (p := ⟨g, 3, none⟩) hgw _).setCell (p := ⟨g, 4, none⟩) hgw _).setCell (p := ⟨g, 5, none⟩) hgw _).setCell (p := ⟨g, 13, none⟩) hgw _))
  clear hm4 hk4 hgw c0_ c1_ c2_ c10_ e0_ e1_ e2_ e10_ M0 HP13 HBE HENV13 hHeld
  generalize ((((w13.setCell ⟨g, 3, none⟩ (.int .u64 0)).setCell ⟨g, 4, none⟩ (.int .u64 412316860416)).setCell ⟨g, 5, none⟩ (.int .u64 2147418112)).setCell ⟨g, 13, none⟩ (.int .u64 65536)).drew = W4 at *
  have y4 := blk_cell HENV4.out 4
  have y3 := blk_cell HENV4.out 3
  simp only [List.getElem?_toArray, List.getElem?_cons_zero, List.getElem?_cons_succ] at y3 y4
  have c38 : W4.cell? ⟨g, 38, none⟩ = some (.bool false) := HM4.out.cell 38 (by omega)
  have c39 : W4.cell? ⟨g, 39, none⟩ = some (.int .i64 0) := HM4.out.cell 39 (by omega)
  have e38 := HM4.out.frozen 38
  have e39 := HM4.out.frozen 39
  have HGL := Aside0.mk HM4.out.lt
  by_cases hneg : fr < 0
  · have t1 : decide (fr < 0) = true := decide_eq_true hneg
    have hO := out_bad (lr := lr) (ls := ls) (fr := fr) HP4.out HCD.out HM4.out (.inl hneg) HBD.out
    have HO := Aside0.mk hO
    have HBF := Aside0.mk ((HB4.out.setCell (p := ⟨g, 38, none⟩) (Nat.le_of_lt HEG.out) (.bool true)).setCell (p := ⟨g, 39, none⟩) (Nat.le_of_lt HEG.out) (.int .i64 1))
    clear hneg hO
    go_wp2_with fail
    go_ret
    exact ⟨g, gm, _, _, _, rfl, HO.out, HBF.out⟩
  by_cases hbig : 1048576 < fr
  · have t1 : decide (fr < 0) = false := decide_eq_false hneg
    have t2 : decide (fr > 1048576) = true := decide_eq_true hbig
    have t3 : decide (1048576 < fr) = true := decide_eq_true hbig
    have hO := out_bad (lr := lr) (ls := ls) (fr := fr) HP4.out HCD.out HM4.out (.inr hbig) HBD.out
    have HO := Aside0.mk hO
    have HBF := Aside0.mk ((HB4.out.setCell (p := ⟨g, 38, none⟩) (Nat.le_of_lt HEG.out) (.bool true)).setCell (p := ⟨g, 39, none⟩) (Nat.le_of_lt HEG.out) (.int .i64 1))
    clear hneg hbig hO
    go_wp2_with fail
    go_ret
    exact ⟨g, gm, _, _, _, rfl, HO.out, HBF.out⟩
  · have t1 : decide (fr < 0) = false := decide_eq_false hneg
    have t2 : decide (fr > 1048576) = false := decide_eq_false hbig
    have t3 : decide (1048576 < fr) = false := decide_eq_false hbig
    have HNB := Aside0.mk (show ¬ bad fr from by unfold bad; omega)
    have HF := Aside0.mk (HS34.out W4 HB4.out (by omega) (by omega))
    clear hneg hbig HS34 c38 c39 e38 e39
    go_wp2_with fail
    refine HF.out.mono ?_
    rintro e W5 ⟨f, rfl, hf⟩
    obtain ⟨Af, nf, cf, ef⟩ : ∃ Af nf cf, f = .slice Af nf cf := by
      obtain ⟨A, c, e, _⟩ := hf.1
      exact ⟨A, _, c, e⟩
    subst ef
    have hO := out_ok (lr := lr) (fr := fr) HP4.out HCD.out HM4.out HNB.out HBD.out HBS.out hf
    have HO := Aside0.mk hO
    have HBF := Aside0.mk ((below_step HB4.out hf.2.2).setCell (p := ⟨g, 2, none⟩) (Nat.le_of_lt HEG.out) (.slice Af nf cf))
    have c2 : W5.cell? ⟨g, 2, none⟩ = some (.slice none 0 0) := (HM4.out.below hf.2.2).cell 2 (by omega)
    have e2 := (HM4.out.below hf.2.2).frozen 2
    clear hO hf
    go_wp2_with fail
    go_ret
    exact ⟨g, gm, _, _, _, rfl, HO.out, HBF.out⟩
end Go.Proofs.YtcgkgaibomcheaaGreat.ENew
end
