/- Joined out of this claim's texts: PRvemuRunsx6, SameP. Conditions: those of each theorem. -/
import Derived.Test.YtcgkgaibomcheaaGreatZB03
import Derived.Test.YtcgkgaibomcheaaGreatZB15
import Derived.Test.YtcgkgaibomcheaaGreatZB12
import Derived.Test.YtcgkgaibomcheaaGreatZB14
section
namespace Go.Proofs.YtcgkgaibomcheaaGreat.PRvemuRuns
open Go.RowKit Go.Proofs.YtcgkgaibomcheaaGreatW.PrintWords Go.Proofs.YtcgkgaibomcheaaGreatW.PrintLast Go.Proofs.YtcgkgaibomcheaaGreatW.PrintMore
attribute [local go_sem] max2_int min2_int max_two min_two max_three min_three max_four min_four   -- for this text's walks alone
set_option linter.unusedVariables false
set_option linter.unusedSimpArgs false

attribute [local go_sem high] eqA54
/-! ### ravelinref16_Same: function 14 -/
mutual
def ravelinref16_Same.j0 : Nat → Bool → Int → Int → Int → List Int → List (S54) → Int → Int → Int → List Int → List (S54) → Option (Bool)
  | 0, _, _, _, _, _, _, _, _, _, _, _ => none
  | k + 1, x43, x237000, x237001, x237002, x237003, x237004, x238000, x238001, x238002, x238003, x238004 => if x43 = true then (some false) else (ravelinref16_Same.l0 k 0 x237000 x237001 x237002 x237003 x237004 x238000 x238001 x238002 x238003 x238004)
def ravelinref16_Same.l0 : Nat → Int → Int → Int → Int → List Int → List (S54) → Int → Int → Int → List Int → List (S54) → Option (Bool)
  | 0, _, _, _, _, _, _, _, _, _, _, _ => none
  | k + 1, x5, x237000, x237001, x237002, x237003, x237004, x238000, x238001, x238002, x238003, x238004 => if x5 < (x237003.length : Int) then (if 0 ≤ x5 then (if x5 < (x238003.length : Int) then (if (rd x237003 x5) = (rd x238003 x5) then (ravelinref16_Same.l0 k (wrap64 (x5 + 1)) x237000 x237001 x237002 x237003 x237004 x238000 x238001 x238002 x238003 x238004) else (some false)) else (none)) else (none)) else (ravelinref16_Same.l1 k 0 x237000 x237001 x237002 x237003 x237004 x238000 x238001 x238002 x238003 x238004)
def ravelinref16_Same.l1 : Nat → Int → Int → Int → Int → List Int → List (S54) → Int → Int → Int → List Int → List (S54) → Option (Bool)
  | 0, _, _, _, _, _, _, _, _, _, _, _ => none
  | k + 1, x6, x237000, x237001, x237002, x237003, x237004, x238000, x238001, x238002, x238003, x238004 => if x6 < (x237004.length : Int) then (if 0 ≤ x6 then (if x6 < (x238004.length : Int) then (if (!(((rd_T54 x237004 x6).f0) == ((rd_T54 x238004 x6).f0)) || (!(((rd_T54 x237004 x6).f1) == ((rd_T54 x238004 x6).f1)) || (!(((rd_T54 x237004 x6).f2) == ((rd_T54 x238004 x6).f2))))) = true then (some false) else (ravelinref16_Same.l1 k (wrap64 (x6 + 1)) x237000 x237001 x237002 x237003 x237004 x238000 x238001 x238002 x238003 x238004)) else (none)) else (none)) else (some true)
end
def ravelinref16_Same.f (k : Nat) (a0_0 : Int) (a0_1 : Int) (a0_2 : Int) (l0_3 : List Int) (l0_4 : List (S54)) (a1_0 : Int) (a1_1 : Int) (a1_2 : Int) (l1_3 : List Int) (l1_4 : List (S54)) : Option (Bool) := if a0_0 = a1_0 then (if a0_1 = a1_1 then (if a0_2 = a1_2 then (if (l0_3.length : Int) = (l1_3.length : Int) then (ravelinref16_Same.j0 k ((l0_4.length : Int) != (l1_4.length : Int)) a0_0 a0_1 a0_2 l0_3 l0_4 a1_0 a1_1 a1_2 l1_3 l1_4) else (ravelinref16_Same.j0 k true a0_0 a0_1 a0_2 l0_3 l0_4 a1_0 a1_1 a1_2 l1_3 l1_4)) else (ravelinref16_Same.j0 k true a0_0 a0_1 a0_2 l0_3 l0_4 a1_0 a1_1 a1_2 l1_3 l1_4)) else (ravelinref16_Same.j0 k true a0_0 a0_1 a0_2 l0_3 l0_4 a1_0 a1_1 a1_2 l1_3 l1_4)) else (ravelinref16_Same.j0 k true a0_0 a0_1 a0_2 l0_3 l0_4 a1_0 a1_1 a1_2 l1_3 l1_4)
set_option maxHeartbeats 8000000 in
set_option maxRecDepth 100000 in
theorem ravelinref16_Same.calls (k : Nat) (a0_0 : Int) (a0_1 : Int) (a0_2 : Int) (A0_3 : Option Addr) (c0_3 : Nat) (l0_3 : List Int) (A0_4 : Option Addr) (c0_4 : Nat) (l0_4 : List (S54)) (a1_0 : Int) (a1_1 : Int) (a1_2 : Int) (A1_3 : Option Addr) (c1_3 : Nat) (l1_3 : List Int) (A1_4 : Option Addr) (c1_4 : Nat) (l1_4 : List (S54)) (r : Bool) (w : World) (hr0_3 : Kd.C (Kd.int .u64) w A0_3 l0_3.length l0_3) (hc0_3 : l0_3.length ≤ c0_3) (hr0_4 : Kd.C k54 w A0_4 l0_4.length l0_4) (hc0_4 : l0_4.length ≤ c0_4) (hr1_3 : Kd.C (Kd.int .u64) w A1_3 l1_3.length l1_3) (hc1_3 : l1_3.length ≤ c1_3) (hr1_4 : Kd.C k54 w A1_4 l1_4.length l1_4) (hc1_4 : l1_4.length ≤ c1_4) (h : ravelinref16_Same.f k a0_0 a0_1 a0_2 l0_3 l0_4 a1_0 a1_1 a1_2 l1_3 l1_4 = some r) :
    Calls Tryz.prog 14 #[.agg #[.int .i64 a0_0, .int .i64 a0_1, .int .i64 a0_2, .slice A0_3 l0_3.length c0_3, .slice A0_4 l0_4.length c0_4], .agg #[.int .i64 a1_0, .int .i64 a1_1, .int .i64 a1_2, .slice A1_3 l1_3.length c1_3, .slice A1_4 l1_4.length c1_4]] w fun e w' => e = .returned (.bool r) ∧ Below w.heap.size w w' := by
  have hu31 := Tryz.underlying31
  have hu54 := Tryz.underlying54
  have HR0_3 := Aside0.mk hr0_3
  have HC0_3 := Aside0.mk hc0_3
  clear hr0_3 hc0_3
  have HR0_4 := Aside0.mk hr0_4
  have HC0_4 := Aside0.mk hc0_4
  clear hr0_4 hc0_4
  have HR1_3 := Aside0.mk hr1_3
  have HC1_3 := Aside0.mk hc1_3
  clear hr1_3 hc1_3
  have HR1_4 := Aside0.mk hr1_4
  have HC1_4 := Aside0.mk hc1_4
  clear hr1_4 hc1_4
  have HB := Aside0.mk (Below.refl w.heap.size w)
  have H : (if a0_0 = a1_0 then (if a0_1 = a1_1 then (if a0_2 = a1_2 then (if (l0_3.length : Int) = (l1_3.length : Int) then (ravelinref16_Same.j0 k ((l0_4.length : Int) != (l1_4.length : Int)) a0_0 a0_1 a0_2 l0_3 l0_4 a1_0 a1_1 a1_2 l1_3 l1_4) else (ravelinref16_Same.j0 k true a0_0 a0_1 a0_2 l0_3 l0_4 a1_0 a1_1 a1_2 l1_3 l1_4)) else (ravelinref16_Same.j0 k true a0_0 a0_1 a0_2 l0_3 l0_4 a1_0 a1_1 a1_2 l1_3 l1_4)) else (ravelinref16_Same.j0 k true a0_0 a0_1 a0_2 l0_3 l0_4 a1_0 a1_1 a1_2 l1_3 l1_4)) else (ravelinref16_Same.j0 k true a0_0 a0_1 a0_2 l0_3 l0_4 a1_0 a1_1 a1_2 l1_3 l1_4)) = some r := h
  clear h
  have HC3 := Aside0.mk H
  clear H
  go_enter Tryz.func14, Tryz.ntmps14
  go_upto_region 1 with (first | ((with_reducible refine gate_dst (N := 2) rfl ?_); (try (refine gate_guard (by rfl) ?_; dsimp only)); refine box_event ?hg (N := 2) ?hd (cs := #[.int .i64 a0_0, .int .i64 a0_1, .int .i64 a0_2, .slice A0_3 l0_3.length c0_3, .slice A0_4 l0_4.length c0_4]) (t := 31) ?hr ?_; (case hd => rfl); (case hg => rfl); (case hr => first | (go_simp; done) | (go_simp; rfl)); intro gb236 hg w4 hbox hb; have n0_ := Aside0.mk (below_step (by repeat (first | (with_reducible first | exact HB.out | apply below_alloc | apply pw_below_drewN | apply below_drew1) | exact HB.out)) hb); have n1_ := Aside0.mk (hbox); have n2_ := Aside0.mk ((by rw [hg]; exact (below_size (by repeat (first | (with_reducible first | exact HB.out | apply below_alloc | apply pw_below_drewN | apply below_drew1) | exact HB.out))) : w.heap.size ≤ gb236)); have n3_ := Aside0.mk ((by rw [hg]; exact (below_size (by repeat (first | (with_reducible first | exact HB.out | apply below_alloc | apply pw_below_drewN | apply below_drew1) | exact HB.out))) : w.heap.size ≤ gb236)); clear HB; have HB := n0_; have BK236 := n1_; have GW236 := n2_; have GE236 := n3_; clear n0_ n1_ n2_ n3_; clear hb hbox hg) | ((with_reducible refine gate_dst (N := 3) rfl ?_); (try (refine gate_guard (by rfl) ?_; dsimp only)); refine box_event ?hg (N := 3) ?hd (cs := #[.int .i64 a1_0, .int .i64 a1_1, .int .i64 a1_2, .slice A1_3 l1_3.length c1_3, .slice A1_4 l1_4.length c1_4]) (t := 31) ?hr ?_; (case hd => rfl); (case hg => rfl); (case hr => first | (go_simp; done) | (go_simp; rfl)); intro gb237 hg w5 hbox hb; have n0_ := Aside0.mk (blk_below (g := gb236) (o := .cells #[.int .i64 a0_0, .int .i64 a0_1, .int .i64 a0_2, .slice A0_3 l0_3.length c0_3, .slice A0_4 l0_4.length c0_4] 31 (0, 0)) (by (with_reducible repeat (first | refine blk_drewN ?_ _ | refine blk_drew ?_ | refine blk_alloc ?_ _)); exact BK236.out) hb); have n1_ := Aside0.mk (below_step (by repeat (first | (with_reducible first | exact HB.out | apply below_alloc | apply pw_below_drewN | apply below_drew1 | refine below_set ?_ GE236.out) | exact HB.out)) hb); have n2_ := Aside0.mk (hbox); have n3_ := Aside0.mk ((by rw [hg]; exact (below_size (by repeat (first | (with_reducible first | exact HB.out | apply below_alloc | apply pw_below_drewN | apply below_drew1 | refine below_set ?_ GE236.out) | exact HB.out))) : w.heap.size ≤ gb237)); have n4_ := Aside0.mk ((by rw [hg]; exact (below_size (by repeat (first | (with_reducible first | exact HB.out | apply below_alloc | apply pw_below_drewN | apply below_drew1 | refine below_set ?_ GE236.out) | exact HB.out))) : w.heap.size ≤ gb237)); have n5_ := Aside0.mk ((by rw [hg]; exact Nat.ne_of_lt (blk_lt (g := gb236) (o := .cells #[.int .i64 a0_0, .int .i64 a0_1, .int .i64 a0_2, .slice A0_3 l0_3.length c0_3, .slice A0_4 l0_4.length c0_4] 31 (0, 0)) (by (with_reducible repeat (first | refine blk_drewN ?_ _ | refine blk_drew ?_ | refine blk_alloc ?_ _)); exact BK236.out)) : gb236 ≠ gb237)); have n6_ := Aside0.mk ((by rw [hg]; exact Nat.ne_of_gt (blk_lt (g := gb236) (o := .cells #[.int .i64 a0_0, .int .i64 a0_1, .int .i64 a0_2, .slice A0_3 l0_3.length c0_3, .slice A0_4 l0_4.length c0_4] 31 (0, 0)) (by (with_reducible repeat (first | refine blk_drewN ?_ _ | refine blk_drew ?_ | refine blk_alloc ?_ _)); exact BK236.out)) : gb237 ≠ gb236)); clear BK236; clear HB; have BK236 := n0_; have HB := n1_; have BK237 := n2_; have GW237 := n3_; have GE237 := n4_; have NB236_237 := n5_; have NB237_236 := n6_; clear n0_ n1_ n2_ n3_ n4_ n5_ n6_; clear hb hbox hg))
  repeat (go_quiet (first | ((with_reducible refine gate_dst (N := 2) rfl ?_); (try (refine gate_guard (by rfl) ?_; dsimp only)); refine box_event ?hg (N := 2) ?hd (cs := #[.int .i64 a0_0, .int .i64 a0_1, .int .i64 a0_2, .slice A0_3 l0_3.length c0_3, .slice A0_4 l0_4.length c0_4]) (t := 31) ?hr ?_; (case hd => rfl); (case hg => rfl); (case hr => first | (go_simp; done) | (go_simp; rfl)); intro gb236 hg w4 hbox hb; have n0_ := Aside0.mk (below_step (by repeat (first | (with_reducible first | exact HB.out | apply below_alloc | apply pw_below_drewN | apply below_drew1) | exact HB.out)) hb); have n1_ := Aside0.mk (hbox); have n2_ := Aside0.mk ((by rw [hg]; exact (below_size (by repeat (first | (with_reducible first | exact HB.out | apply below_alloc | apply pw_below_drewN | apply below_drew1) | exact HB.out))) : w.heap.size ≤ gb236)); have n3_ := Aside0.mk ((by rw [hg]; exact (below_size (by repeat (first | (with_reducible first | exact HB.out | apply below_alloc | apply pw_below_drewN | apply below_drew1) | exact HB.out))) : w.heap.size ≤ gb236)); clear HB; have HB := n0_; have BK236 := n1_; have GW236 := n2_; have GE236 := n3_; clear n0_ n1_ n2_ n3_; clear hb hbox hg) | ((with_reducible refine gate_dst (N := 3) rfl ?_); (try (refine gate_guard (by rfl) ?_; dsimp only)); refine box_event ?hg (N := 3) ?hd (cs := #[.int .i64 a1_0, .int .i64 a1_1, .int .i64 a1_2, .slice A1_3 l1_3.length c1_3, .slice A1_4 l1_4.length c1_4]) (t := 31) ?hr ?_; (case hd => rfl); (case hg => rfl); (case hr => first | (go_simp; done) | (go_simp; rfl)); intro gb237 hg w5 hbox hb; have n0_ := Aside0.mk (blk_below (g := gb236) (o := .cells #[.int .i64 a0_0, .int .i64 a0_1, .int .i64 a0_2, .slice A0_3 l0_3.length c0_3, .slice A0_4 l0_4.length c0_4] 31 (0, 0)) (by (with_reducible repeat (first | refine blk_drewN ?_ _ | refine blk_drew ?_ | refine blk_alloc ?_ _)); exact BK236.out) hb); have n1_ := Aside0.mk (below_step (by repeat (first | (with_reducible first | exact HB.out | apply below_alloc | apply pw_below_drewN | apply below_drew1 | refine below_set ?_ GE236.out) | exact HB.out)) hb); have n2_ := Aside0.mk (hbox); have n3_ := Aside0.mk ((by rw [hg]; exact (below_size (by repeat (first | (with_reducible first | exact HB.out | apply below_alloc | apply pw_below_drewN | apply below_drew1 | refine below_set ?_ GE236.out) | exact HB.out))) : w.heap.size ≤ gb237)); have n4_ := Aside0.mk ((by rw [hg]; exact (below_size (by repeat (first | (with_reducible first | exact HB.out | apply below_alloc | apply pw_below_drewN | apply below_drew1 | refine below_set ?_ GE236.out) | exact HB.out))) : w.heap.size ≤ gb237)); have n5_ := Aside0.mk ((by rw [hg]; exact Nat.ne_of_lt (blk_lt (g := gb236) (o := .cells #[.int .i64 a0_0, .int .i64 a0_1, .int .i64 a0_2, .slice A0_3 l0_3.length c0_3, .slice A0_4 l0_4.length c0_4] 31 (0, 0)) (by (with_reducible repeat (first | refine blk_drewN ?_ _ | refine blk_drew ?_ | refine blk_alloc ?_ _)); exact BK236.out)) : gb236 ≠ gb237)); have n6_ := Aside0.mk ((by rw [hg]; exact Nat.ne_of_gt (blk_lt (g := gb236) (o := .cells #[.int .i64 a0_0, .int .i64 a0_1, .int .i64 a0_2, .slice A0_3 l0_3.length c0_3, .slice A0_4 l0_4.length c0_4] 31 (0, 0)) (by (with_reducible repeat (first | refine blk_drewN ?_ _ | refine blk_drew ?_ | refine blk_alloc ?_ _)); exact BK236.out)) : gb237 ≠ gb236)); clear BK236; clear HB; have BK236 := n0_; have HB := n1_; have BK237 := n2_; have GW237 := n3_; have GE237 := n4_; have NB236_237 := n5_; have NB237_236 := n6_; clear n0_ n1_ n2_ n3_ n4_ n5_ n6_; clear hb hbox hg)); go_upto_region 1 with (first | ((with_reducible refine gate_dst (N := 2) rfl ?_); (try (refine gate_guard (by rfl) ?_; dsimp only)); refine box_event ?hg (N := 2) ?hd (cs := #[.int .i64 a0_0, .int .i64 a0_1, .int .i64 a0_2, .slice A0_3 l0_3.length c0_3, .slice A0_4 l0_4.length c0_4]) (t := 31) ?hr ?_; (case hd => rfl); (case hg => rfl); (case hr => first | (go_simp; done) | (go_simp; rfl)); intro gb236 hg w4 hbox hb; have n0_ := Aside0.mk (below_step (by repeat (first | (with_reducible first | exact HB.out | apply below_alloc | apply pw_below_drewN | apply below_drew1) | exact HB.out)) hb); have n1_ := Aside0.mk (hbox); have n2_ := Aside0.mk ((by rw [hg]; exact (below_size (by repeat (first | (with_reducible first | exact HB.out | apply below_alloc | apply pw_below_drewN | apply below_drew1) | exact HB.out))) : w.heap.size ≤ gb236)); have n3_ := Aside0.mk ((by rw [hg]; exact (below_size (by repeat (first | (with_reducible first | exact HB.out | apply below_alloc | apply pw_below_drewN | apply below_drew1) | exact HB.out))) : w.heap.size ≤ gb236)); clear HB; have HB := n0_; have BK236 := n1_; have GW236 := n2_; have GE236 := n3_; clear n0_ n1_ n2_ n3_; clear hb hbox hg) | ((with_reducible refine gate_dst (N := 3) rfl ?_); (try (refine gate_guard (by rfl) ?_; dsimp only)); refine box_event ?hg (N := 3) ?hd (cs := #[.int .i64 a1_0, .int .i64 a1_1, .int .i64 a1_2, .slice A1_3 l1_3.length c1_3, .slice A1_4 l1_4.length c1_4]) (t := 31) ?hr ?_; (case hd => rfl); (case hg => rfl); (case hr => first | (go_simp; done) | (go_simp; rfl)); intro gb237 hg w5 hbox hb; have n0_ := Aside0.mk (blk_below (g := gb236) (o := .cells #[.int .i64 a0_0, .int .i64 a0_1, .int .i64 a0_2, .slice A0_3 l0_3.length c0_3, .slice A0_4 l0_4.length c0_4] 31 (0, 0)) (by (with_reducible repeat (first | refine blk_drewN ?_ _ | refine blk_drew ?_ | refine blk_alloc ?_ _)); exact BK236.out) hb); have n1_ := Aside0.mk (below_step (by repeat (first | (with_reducible first | exact HB.out | apply below_alloc | apply pw_below_drewN | apply below_drew1 | refine below_set ?_ GE236.out) | exact HB.out)) hb); have n2_ := Aside0.mk (hbox); have n3_ := Aside0.mk ((by rw [hg]; exact (below_size (by repeat (first | (with_reducible first | exact HB.out | apply below_alloc | apply pw_below_drewN | apply below_drew1 | refine below_set ?_ GE236.out) | exact HB.out))) : w.heap.size ≤ gb237)); have n4_ := Aside0.mk ((by rw [hg]; exact (below_size (by repeat (first | (with_reducible first | exact HB.out | apply below_alloc | apply pw_below_drewN | apply below_drew1 | refine below_set ?_ GE236.out) | exact HB.out))) : w.heap.size ≤ gb237)); have n5_ := Aside0.mk ((by rw [hg]; exact Nat.ne_of_lt (blk_lt (g := gb236) (o := .cells #[.int .i64 a0_0, .int .i64 a0_1, .int .i64 a0_2, .slice A0_3 l0_3.length c0_3, .slice A0_4 l0_4.length c0_4] 31 (0, 0)) (by (with_reducible repeat (first | refine blk_drewN ?_ _ | refine blk_drew ?_ | refine blk_alloc ?_ _)); exact BK236.out)) : gb236 ≠ gb237)); have n6_ := Aside0.mk ((by rw [hg]; exact Nat.ne_of_gt (blk_lt (g := gb236) (o := .cells #[.int .i64 a0_0, .int .i64 a0_1, .int .i64 a0_2, .slice A0_3 l0_3.length c0_3, .slice A0_4 l0_4.length c0_4] 31 (0, 0)) (by (with_reducible repeat (first | refine blk_drewN ?_ _ | refine blk_drew ?_ | refine blk_alloc ?_ _)); exact BK236.out)) : gb237 ≠ gb236)); clear BK236; clear HB; have BK236 := n0_; have HB := n1_; have BK237 := n2_; have GW237 := n3_; have GE237 := n4_; have NB236_237 := n5_; have NB237_236 := n6_; clear n0_ n1_ n2_ n3_ n4_ n5_ n6_; clear hb hbox hg)))
  (try simp only [Act.put, List.setIfInBounds_toArray, List.set_cons_zero, List.set_cons_succ])
  go_cut [43] (fun v43 wc => ∃ (kq : Nat) (x43_2 : Bool), v43 = .bool x43_2 ∧ Aside0 (ravelinref16_Same.j0 kq x43_2 a0_0 a0_1 a0_2 l0_3 l0_4 a1_0 a1_1 a1_2 l1_3 l1_4 = some r) ∧ Aside0 (kq ≤ k) ∧ Aside0 (wc.heap[gb236]? = some (.cells #[.int .i64 a0_0, .int .i64 a0_1, .int .i64 a0_2, (.slice A0_3 l0_3.length c0_3), (.slice A0_4 l0_4.length c0_4)] 31 (0, 0))) ∧ Aside0 (wc.heap[gb237]? = some (.cells #[.int .i64 a1_0, .int .i64 a1_1, .int .i64 a1_2, (.slice A1_3 l1_3.length c1_3), (.slice A1_4 l1_4.length c1_4)] 31 (0, 0))) ∧ Aside0 (Below w.heap.size w wc))
  case first =>
    have H := HC3.out
    clear HC3
    by_cases c6 : a0_0 = a1_0
    · rw [if_pos c6] at H
      have c6b0 : (a0_0 == a1_0) = true := beq_iff_eq.mpr c6
      have c6b1 : (a0_0 != a1_0) = false := bne_eq_false_iff_eq.mpr c6
      clear c6
      (first | rw [c6b0] | (simp only [i64_w, i32_w]; rw [c6b0]) | skip)
      by_cases c7 : a0_1 = a1_1
      · rw [if_pos c7] at H
        have c7b0 : (a0_1 == a1_1) = true := beq_iff_eq.mpr c7
        have c7b1 : (a0_1 != a1_1) = false := bne_eq_false_iff_eq.mpr c7
        clear c7
        by_cases c8 : a0_2 = a1_2
        · rw [if_pos c8] at H
          have c8b0 : (a0_2 == a1_2) = true := beq_iff_eq.mpr c8
          have c8b1 : (a0_2 != a1_2) = false := bne_eq_false_iff_eq.mpr c8
          clear c8
          by_cases c9 : (l0_3.length : Int) = (l1_3.length : Int)
          · rw [if_pos c9] at H
            have c9b0 : ((l0_3.length : Int) == (l1_3.length : Int)) = true := beq_iff_eq.mpr c9
            have c9b1 : ((l0_3.length : Int) != (l1_3.length : Int)) = false := bne_eq_false_iff_eq.mpr c9
            have c9b2 : (l0_3.length == l1_3.length) = true := by first | simpa using c9 | (simp at c9 ⊢; omega)
            clear c9
            have H' := Aside0.mk H
            clear H
            have hnb10 := NB236_237.out
            have hnc10 := NB237_236.out
            have hcz11_0 : w5.cell? ⟨gb236, 0, none⟩ = some (.int .i64 a0_0) := (blk_cell BK236.out 0).trans rfl
            have hcz11_1 : w5.cell? ⟨gb236, 1, none⟩ = some (.int .i64 a0_1) := (blk_cell BK236.out 1).trans rfl
            have hcz11_2 : w5.cell? ⟨gb236, 2, none⟩ = some (.int .i64 a0_2) := (blk_cell BK236.out 2).trans rfl
            have hcz11_3 : w5.cell? ⟨gb236, 3, none⟩ = some (.slice A0_3 l0_3.length c0_3) := (blk_cell BK236.out 3).trans rfl
            have hcz11_4 : w5.cell? ⟨gb236, 4, none⟩ = some (.slice A0_4 l0_4.length c0_4) := (blk_cell BK236.out 4).trans rfl
            have hfz11_0 := blk_frozen BK236.out 0
            have hfz11_1 := blk_frozen BK236.out 1
            have hfz11_2 := blk_frozen BK236.out 2
            have hfz11_3 := blk_frozen BK236.out 3
            have hfz11_4 := blk_frozen BK236.out 4
            have hcz12_0 : w5.cell? ⟨gb237, 0, none⟩ = some (.int .i64 a1_0) := (blk_cell BK237.out 0).trans rfl
            have hcz12_1 : w5.cell? ⟨gb237, 1, none⟩ = some (.int .i64 a1_1) := (blk_cell BK237.out 1).trans rfl
            have hcz12_2 : w5.cell? ⟨gb237, 2, none⟩ = some (.int .i64 a1_2) := (blk_cell BK237.out 2).trans rfl
            have hcz12_3 : w5.cell? ⟨gb237, 3, none⟩ = some (.slice A1_3 l1_3.length c1_3) := (blk_cell BK237.out 3).trans rfl
            have hcz12_4 : w5.cell? ⟨gb237, 4, none⟩ = some (.slice A1_4 l1_4.length c1_4) := (blk_cell BK237.out 4).trans rfl
            have hfz12_0 := blk_frozen BK237.out 0
            have hfz12_1 := blk_frozen BK237.out 1
            have hfz12_2 := blk_frozen BK237.out 2
            have hfz12_3 := blk_frozen BK237.out 3
            have hfz12_4 := blk_frozen BK237.out 4
            go_wp2
            repeat (go_quiet (fail); try go_wp2)
            go_meet
            case rel => exact ⟨_, (((l0_4.length : Int) != (l1_4.length : Int))), (by first | rfl | (simp; done) | (simp [*]; done)), H', ⟨by first | omega | exact Nat.le_refl _⟩, ⟨by (with_reducible repeat (first | refine blk_drewN ?_ _ | refine blk_drew ?_ | refine blk_alloc ?_ _)); exact BK236.out⟩, ⟨by (with_reducible repeat (first | refine blk_drewN ?_ _ | refine blk_drew ?_ | refine blk_alloc ?_ _)); exact BK237.out⟩, ⟨by repeat (first | (with_reducible first | exact HB.out | apply below_alloc | apply pw_below_drewN | apply below_drew1 | refine below_set ?_ GE236.out | refine below_set ?_ GE237.out) | exact HB.out)⟩⟩
          · rw [if_neg c9] at H
            have c9b0 : ((l0_3.length : Int) == (l1_3.length : Int)) = false := beq_eq_false_iff_ne.mpr c9
            have c9b1 : ((l0_3.length : Int) != (l1_3.length : Int)) = true := bne_iff_ne.mpr c9
            have c9b2 : (l0_3.length == l1_3.length) = false := by first | simpa using c9 | (simp at c9 ⊢; omega)
            have H' := Aside0.mk H
            clear H
            have hnb13 := NB236_237.out
            have hnc13 := NB237_236.out
            have hcz14_0 : w5.cell? ⟨gb236, 0, none⟩ = some (.int .i64 a0_0) := (blk_cell BK236.out 0).trans rfl
            have hcz14_1 : w5.cell? ⟨gb236, 1, none⟩ = some (.int .i64 a0_1) := (blk_cell BK236.out 1).trans rfl
            have hcz14_2 : w5.cell? ⟨gb236, 2, none⟩ = some (.int .i64 a0_2) := (blk_cell BK236.out 2).trans rfl
            have hcz14_3 : w5.cell? ⟨gb236, 3, none⟩ = some (.slice A0_3 l0_3.length c0_3) := (blk_cell BK236.out 3).trans rfl
            have hcz14_4 : w5.cell? ⟨gb236, 4, none⟩ = some (.slice A0_4 l0_4.length c0_4) := (blk_cell BK236.out 4).trans rfl
            have hfz14_0 := blk_frozen BK236.out 0
            have hfz14_1 := blk_frozen BK236.out 1
            have hfz14_2 := blk_frozen BK236.out 2
            have hfz14_3 := blk_frozen BK236.out 3
            have hfz14_4 := blk_frozen BK236.out 4
            have hcz15_0 : w5.cell? ⟨gb237, 0, none⟩ = some (.int .i64 a1_0) := (blk_cell BK237.out 0).trans rfl
            have hcz15_1 : w5.cell? ⟨gb237, 1, none⟩ = some (.int .i64 a1_1) := (blk_cell BK237.out 1).trans rfl
            have hcz15_2 : w5.cell? ⟨gb237, 2, none⟩ = some (.int .i64 a1_2) := (blk_cell BK237.out 2).trans rfl
            have hcz15_3 : w5.cell? ⟨gb237, 3, none⟩ = some (.slice A1_3 l1_3.length c1_3) := (blk_cell BK237.out 3).trans rfl
            have hcz15_4 : w5.cell? ⟨gb237, 4, none⟩ = some (.slice A1_4 l1_4.length c1_4) := (blk_cell BK237.out 4).trans rfl
            have hfz15_0 := blk_frozen BK237.out 0
            have hfz15_1 := blk_frozen BK237.out 1
            have hfz15_2 := blk_frozen BK237.out 2
            have hfz15_3 := blk_frozen BK237.out 3
            have hfz15_4 := blk_frozen BK237.out 4
            go_wp2
            repeat (go_quiet (fail); try go_wp2)
            go_meet
            case rel => exact ⟨_, (true), (by first | rfl | (simp; done) | (simp [*]; done)), H', ⟨by first | omega | exact Nat.le_refl _⟩, ⟨by (with_reducible repeat (first | refine blk_drewN ?_ _ | refine blk_drew ?_ | refine blk_alloc ?_ _)); exact BK236.out⟩, ⟨by (with_reducible repeat (first | refine blk_drewN ?_ _ | refine blk_drew ?_ | refine blk_alloc ?_ _)); exact BK237.out⟩, ⟨by repeat (first | (with_reducible first | exact HB.out | apply below_alloc | apply pw_below_drewN | apply below_drew1 | refine below_set ?_ GE236.out | refine below_set ?_ GE237.out) | exact HB.out)⟩⟩
        · rw [if_neg c8] at H
          have c8b0 : (a0_2 == a1_2) = false := beq_eq_false_iff_ne.mpr c8
          have c8b1 : (a0_2 != a1_2) = true := bne_iff_ne.mpr c8
          have H' := Aside0.mk H
          clear H
          have hnb16 := NB236_237.out
          have hnc16 := NB237_236.out
          have hcz17_0 : w5.cell? ⟨gb236, 0, none⟩ = some (.int .i64 a0_0) := (blk_cell BK236.out 0).trans rfl
          have hcz17_1 : w5.cell? ⟨gb236, 1, none⟩ = some (.int .i64 a0_1) := (blk_cell BK236.out 1).trans rfl
          have hcz17_2 : w5.cell? ⟨gb236, 2, none⟩ = some (.int .i64 a0_2) := (blk_cell BK236.out 2).trans rfl
          have hcz17_3 : w5.cell? ⟨gb236, 3, none⟩ = some (.slice A0_3 l0_3.length c0_3) := (blk_cell BK236.out 3).trans rfl
          have hcz17_4 : w5.cell? ⟨gb236, 4, none⟩ = some (.slice A0_4 l0_4.length c0_4) := (blk_cell BK236.out 4).trans rfl
          have hfz17_0 := blk_frozen BK236.out 0
          have hfz17_1 := blk_frozen BK236.out 1
          have hfz17_2 := blk_frozen BK236.out 2
          have hfz17_3 := blk_frozen BK236.out 3
          have hfz17_4 := blk_frozen BK236.out 4
          have hcz18_0 : w5.cell? ⟨gb237, 0, none⟩ = some (.int .i64 a1_0) := (blk_cell BK237.out 0).trans rfl
          have hcz18_1 : w5.cell? ⟨gb237, 1, none⟩ = some (.int .i64 a1_1) := (blk_cell BK237.out 1).trans rfl
          have hcz18_2 : w5.cell? ⟨gb237, 2, none⟩ = some (.int .i64 a1_2) := (blk_cell BK237.out 2).trans rfl
          have hcz18_3 : w5.cell? ⟨gb237, 3, none⟩ = some (.slice A1_3 l1_3.length c1_3) := (blk_cell BK237.out 3).trans rfl
          have hcz18_4 : w5.cell? ⟨gb237, 4, none⟩ = some (.slice A1_4 l1_4.length c1_4) := (blk_cell BK237.out 4).trans rfl
          have hfz18_0 := blk_frozen BK237.out 0
          have hfz18_1 := blk_frozen BK237.out 1
          have hfz18_2 := blk_frozen BK237.out 2
          have hfz18_3 := blk_frozen BK237.out 3
          have hfz18_4 := blk_frozen BK237.out 4
          go_wp2
          repeat (go_quiet (fail); try go_wp2)
          go_meet
          case rel => exact ⟨_, (true), (by first | rfl | (simp; done) | (simp [*]; done)), H', ⟨by first | omega | exact Nat.le_refl _⟩, ⟨by (with_reducible repeat (first | refine blk_drewN ?_ _ | refine blk_drew ?_ | refine blk_alloc ?_ _)); exact BK236.out⟩, ⟨by (with_reducible repeat (first | refine blk_drewN ?_ _ | refine blk_drew ?_ | refine blk_alloc ?_ _)); exact BK237.out⟩, ⟨by repeat (first | (with_reducible first | exact HB.out | apply below_alloc | apply pw_below_drewN | apply below_drew1 | refine below_set ?_ GE236.out | refine below_set ?_ GE237.out) | exact HB.out)⟩⟩
      · rw [if_neg c7] at H
        have c7b0 : (a0_1 == a1_1) = false := beq_eq_false_iff_ne.mpr c7
        have c7b1 : (a0_1 != a1_1) = true := bne_iff_ne.mpr c7
        have H' := Aside0.mk H
        clear H
        have hnb19 := NB236_237.out
        have hnc19 := NB237_236.out
        have hcz20_0 : w5.cell? ⟨gb236, 0, none⟩ = some (.int .i64 a0_0) := (blk_cell BK236.out 0).trans rfl
        have hcz20_1 : w5.cell? ⟨gb236, 1, none⟩ = some (.int .i64 a0_1) := (blk_cell BK236.out 1).trans rfl
        have hcz20_2 : w5.cell? ⟨gb236, 2, none⟩ = some (.int .i64 a0_2) := (blk_cell BK236.out 2).trans rfl
        have hcz20_3 : w5.cell? ⟨gb236, 3, none⟩ = some (.slice A0_3 l0_3.length c0_3) := (blk_cell BK236.out 3).trans rfl
        have hcz20_4 : w5.cell? ⟨gb236, 4, none⟩ = some (.slice A0_4 l0_4.length c0_4) := (blk_cell BK236.out 4).trans rfl
        have hfz20_0 := blk_frozen BK236.out 0
        have hfz20_1 := blk_frozen BK236.out 1
        have hfz20_2 := blk_frozen BK236.out 2
        have hfz20_3 := blk_frozen BK236.out 3
        have hfz20_4 := blk_frozen BK236.out 4
        have hcz21_0 : w5.cell? ⟨gb237, 0, none⟩ = some (.int .i64 a1_0) := (blk_cell BK237.out 0).trans rfl
        have hcz21_1 : w5.cell? ⟨gb237, 1, none⟩ = some (.int .i64 a1_1) := (blk_cell BK237.out 1).trans rfl
        have hcz21_2 : w5.cell? ⟨gb237, 2, none⟩ = some (.int .i64 a1_2) := (blk_cell BK237.out 2).trans rfl
        have hcz21_3 : w5.cell? ⟨gb237, 3, none⟩ = some (.slice A1_3 l1_3.length c1_3) := (blk_cell BK237.out 3).trans rfl
        have hcz21_4 : w5.cell? ⟨gb237, 4, none⟩ = some (.slice A1_4 l1_4.length c1_4) := (blk_cell BK237.out 4).trans rfl
        have hfz21_0 := blk_frozen BK237.out 0
        have hfz21_1 := blk_frozen BK237.out 1
        have hfz21_2 := blk_frozen BK237.out 2
        have hfz21_3 := blk_frozen BK237.out 3
        have hfz21_4 := blk_frozen BK237.out 4
        go_wp2
        repeat (go_quiet (fail); try go_wp2)
        go_meet
        case rel => exact ⟨_, (true), (by first | rfl | (simp; done) | (simp [*]; done)), H', ⟨by first | omega | exact Nat.le_refl _⟩, ⟨by (with_reducible repeat (first | refine blk_drewN ?_ _ | refine blk_drew ?_ | refine blk_alloc ?_ _)); exact BK236.out⟩, ⟨by (with_reducible repeat (first | refine blk_drewN ?_ _ | refine blk_drew ?_ | refine blk_alloc ?_ _)); exact BK237.out⟩, ⟨by repeat (first | (with_reducible first | exact HB.out | apply below_alloc | apply pw_below_drewN | apply below_drew1 | refine below_set ?_ GE236.out | refine below_set ?_ GE237.out) | exact HB.out)⟩⟩
    · rw [if_neg c6] at H
      have c6b0 : (a0_0 == a1_0) = false := beq_eq_false_iff_ne.mpr c6
      have c6b1 : (a0_0 != a1_0) = true := bne_iff_ne.mpr c6
      (first | rw [c6b0] | (simp only [i64_w, i32_w]; rw [c6b0]) | skip)
      have H' := Aside0.mk H
      clear H
      have hnb22 := NB236_237.out
      have hnc22 := NB237_236.out
      have hcz23_0 : w5.cell? ⟨gb236, 0, none⟩ = some (.int .i64 a0_0) := (blk_cell BK236.out 0).trans rfl
      have hcz23_1 : w5.cell? ⟨gb236, 1, none⟩ = some (.int .i64 a0_1) := (blk_cell BK236.out 1).trans rfl
      have hcz23_2 : w5.cell? ⟨gb236, 2, none⟩ = some (.int .i64 a0_2) := (blk_cell BK236.out 2).trans rfl
      have hcz23_3 : w5.cell? ⟨gb236, 3, none⟩ = some (.slice A0_3 l0_3.length c0_3) := (blk_cell BK236.out 3).trans rfl
      have hcz23_4 : w5.cell? ⟨gb236, 4, none⟩ = some (.slice A0_4 l0_4.length c0_4) := (blk_cell BK236.out 4).trans rfl
      have hfz23_0 := blk_frozen BK236.out 0
      have hfz23_1 := blk_frozen BK236.out 1
      have hfz23_2 := blk_frozen BK236.out 2
      have hfz23_3 := blk_frozen BK236.out 3
      have hfz23_4 := blk_frozen BK236.out 4
      have hcz24_0 : w5.cell? ⟨gb237, 0, none⟩ = some (.int .i64 a1_0) := (blk_cell BK237.out 0).trans rfl
      have hcz24_1 : w5.cell? ⟨gb237, 1, none⟩ = some (.int .i64 a1_1) := (blk_cell BK237.out 1).trans rfl
      have hcz24_2 : w5.cell? ⟨gb237, 2, none⟩ = some (.int .i64 a1_2) := (blk_cell BK237.out 2).trans rfl
      have hcz24_3 : w5.cell? ⟨gb237, 3, none⟩ = some (.slice A1_3 l1_3.length c1_3) := (blk_cell BK237.out 3).trans rfl
      have hcz24_4 : w5.cell? ⟨gb237, 4, none⟩ = some (.slice A1_4 l1_4.length c1_4) := (blk_cell BK237.out 4).trans rfl
      have hfz24_0 := blk_frozen BK237.out 0
      have hfz24_1 := blk_frozen BK237.out 1
      have hfz24_2 := blk_frozen BK237.out 2
      have hfz24_3 := blk_frozen BK237.out 3
      have hfz24_4 := blk_frozen BK237.out 4
      go_wp2
      repeat (go_quiet (fail); try go_wp2)
      go_meet
      case rel => exact ⟨_, (true), (by first | rfl | (simp; done) | (simp [*]; done)), H', ⟨by first | omega | exact Nat.le_refl _⟩, ⟨by (with_reducible repeat (first | refine blk_drewN ?_ _ | refine blk_drew ?_ | refine blk_alloc ?_ _)); exact BK236.out⟩, ⟨by (with_reducible repeat (first | refine blk_drewN ?_ _ | refine blk_drew ?_ | refine blk_alloc ?_ _)); exact BK237.out⟩, ⟨by repeat (first | (with_reducible first | exact HB.out | apply below_alloc | apply pw_below_drewN | apply below_drew1 | refine below_set ?_ GE236.out | refine below_set ?_ GE237.out) | exact HB.out)⟩⟩
  case rest =>
    clear HC3
    try clear c1
    try clear c2
    try clear p2
    try clear c6
    try clear c6b0
    try clear c6b1
    try clear c7
    try clear c7b0
    try clear c7b1
    try clear c8
    try clear c8b0
    try clear c8b1
    try clear c9
    try clear c9b0
    try clear c9b1
    try clear c9b2
    try clear c10
    try clear c13
    try clear c14
    try clear c16
    try clear c19
    try clear c22
    try clear hcz11_0
    try clear hcz11_1
    try clear hcz11_2
    try clear hcz11_3
    try clear hcz11_4
    try clear hcz12_0
    try clear hcz12_1
    try clear hcz12_2
    try clear hcz12_3
    try clear hcz12_4
    try clear hcz14_0
    try clear hcz14_1
    try clear hcz14_2
    try clear hcz14_3
    try clear hcz14_4
    try clear hcz15_0
    try clear hcz15_1
    try clear hcz15_2
    try clear hcz15_3
    try clear hcz15_4
    try clear hcz17_0
    try clear hcz17_1
    try clear hcz17_2
    try clear hcz17_3
    try clear hcz17_4
    try clear hcz18_0
    try clear hcz18_1
    try clear hcz18_2
    try clear hcz18_3
    try clear hcz18_4
    try clear hcz20_0
    try clear hcz20_1
    try clear hcz20_2
    try clear hcz20_3
    try clear hcz20_4
    try clear hcz21_0
    try clear hcz21_1
    try clear hcz21_2
    try clear hcz21_3
    try clear hcz21_4
    try clear hcz23_0
    try clear hcz23_1
    try clear hcz23_2
    try clear hcz23_3
    try clear hcz23_4
    try clear hcz24_0
    try clear hcz24_1
    try clear hcz24_2
    try clear hcz24_3
    try clear hcz24_4
    try clear hfz11_0
    try clear hfz11_1
    try clear hfz11_2
    try clear hfz11_3
    try clear hfz11_4
    try clear hfz12_0
    try clear hfz12_1
    try clear hfz12_2
    try clear hfz12_3
    try clear hfz12_4
    try clear hfz14_0
    try clear hfz14_1
    try clear hfz14_2
    try clear hfz14_3
    try clear hfz14_4
    try clear hfz15_0
    try clear hfz15_1
    try clear hfz15_2
    try clear hfz15_3
    try clear hfz15_4
    try clear hfz17_0
    try clear hfz17_1
    try clear hfz17_2
    try clear hfz17_3
    try clear hfz17_4
    try clear hfz18_0
    try clear hfz18_1
    try clear hfz18_2
    try clear hfz18_3
    try clear hfz18_4
    try clear hfz20_0
    try clear hfz20_1
    try clear hfz20_2
    try clear hfz20_3
    try clear hfz20_4
    try clear hfz21_0
    try clear hfz21_1
    try clear hfz21_2
    try clear hfz21_3
    try clear hfz21_4
    try clear hfz23_0
    try clear hfz23_1
    try clear hfz23_2
    try clear hfz23_3
    try clear hfz23_4
    try clear hfz24_0
    try clear hfz24_1
    try clear hfz24_2
    try clear hfz24_3
    try clear hfz24_4
    obtain ⟨kq, x43_2, rfl, HA, HJ2, BK236, BK237, HB⟩ := hcut
    cases kq with
    | zero => exact absurd HA.out (by simp [ravelinref16_Same.j0])
    | succ kj2 =>
      have H := HA.out
      clear HA
      simp only [ravelinref16_Same.j0] at H
      by_cases c25 : x43_2 = true
      · subst c25
        have H1 : (some false) = some r := by rw [if_pos rfl] at H; exact H
        clear H
        have H := H1
        clear H1
        obtain rfl := Option.some.inj H
        go_wp2
        repeat (go_quiet (fail); try go_wp2)
        go_ret
        exact ⟨by first | rfl | (simp [errW_none, errW_some] <;> rfl) | (simp [*, errW_none, errW_some] <;> rfl), by repeat (first | (with_reducible first | exact HB.out | apply below_alloc | apply pw_below_drewN | apply below_drew1 | refine below_set ?_ GE236.out | refine below_set ?_ GE237.out) | exact HB.out)⟩
      · replace c25 := Bool.eq_false_iff.mpr c25
        subst c25
        have H1 : (ravelinref16_Same.l0 kj2 0 a0_0 a0_1 a0_2 l0_3 l0_4 a1_0 a1_1 a1_2 l1_3 l1_4) = some r := by rw [if_neg (show ¬ (false = true) by decide)] at H; exact H
        clear H
        have H := H1
        clear H1
        have H' := Aside0.mk H
        clear H
        go_wp2
        repeat (go_quiet (fail); try go_wp2)
        go_loopg [5] kj2 (fun kq v5 w' => ∃ (x5_2 : Int), v5 = .int .i64 x5_2 ∧ Aside0 (ravelinref16_Same.l0 kq x5_2 a0_0 a0_1 a0_2 l0_3 l0_4 a1_0 a1_1 a1_2 l1_3 l1_4 = some r) ∧ Aside0 (kq ≤ kj2) ∧ Aside0 (w'.heap[gb236]? = some (.cells #[.int .i64 a0_0, .int .i64 a0_1, .int .i64 a0_2, (.slice A0_3 l0_3.length c0_3), (.slice A0_4 l0_4.length c0_4)] 31 (0, 0))) ∧ Aside0 (w'.heap[gb237]? = some (.cells #[.int .i64 a1_0, .int .i64 a1_1, .int .i64 a1_2, (.slice A1_3 l1_3.length c1_3), (.slice A1_4 l1_4.length c1_4)] 31 (0, 0))) ∧ Aside0 (Below w.heap.size w w'))
        case atStart => exact ⟨(0), (by first | rfl | (simp; done) | (simp [*]; done)), H', ⟨Nat.le_refl _⟩, ⟨by (with_reducible repeat (first | refine blk_drewN ?_ _ | refine blk_drew ?_ | refine blk_alloc ?_ _)); exact BK236.out⟩, ⟨by (with_reducible repeat (first | refine blk_drewN ?_ _ | refine blk_drew ?_ | refine blk_alloc ?_ _)); exact BK237.out⟩, ⟨by repeat (first | (with_reducible first | exact HB.out | apply below_alloc | apply pw_below_drewN | apply below_drew1 | refine below_set ?_ GE236.out | refine below_set ?_ GE237.out) | exact HB.out)⟩⟩
        case round =>
          clear H'
          try clear c1
          try clear c2
          try clear p2
          try clear c6
          try clear c6b0
          try clear c6b1
          try clear c7
          try clear c7b0
          try clear c7b1
          try clear c8
          try clear c8b0
          try clear c8b1
          try clear c9
          try clear c9b0
          try clear c9b1
          try clear c9b2
          try clear c10
          try clear c13
          try clear c14
          try clear c16
          try clear c19
          try clear c22
          try clear c25
          try clear hcz11_0
          try clear hcz11_1
          try clear hcz11_2
          try clear hcz11_3
          try clear hcz11_4
          try clear hcz12_0
          try clear hcz12_1
          try clear hcz12_2
          try clear hcz12_3
          try clear hcz12_4
          try clear hcz14_0
          try clear hcz14_1
          try clear hcz14_2
          try clear hcz14_3
          try clear hcz14_4
          try clear hcz15_0
          try clear hcz15_1
          try clear hcz15_2
          try clear hcz15_3
          try clear hcz15_4
          try clear hcz17_0
          try clear hcz17_1
          try clear hcz17_2
          try clear hcz17_3
          try clear hcz17_4
          try clear hcz18_0
          try clear hcz18_1
          try clear hcz18_2
          try clear hcz18_3
          try clear hcz18_4
          try clear hcz20_0
          try clear hcz20_1
          try clear hcz20_2
          try clear hcz20_3
          try clear hcz20_4
          try clear hcz21_0
          try clear hcz21_1
          try clear hcz21_2
          try clear hcz21_3
          try clear hcz21_4
          try clear hcz23_0
          try clear hcz23_1
          try clear hcz23_2
          try clear hcz23_3
          try clear hcz23_4
          try clear hcz24_0
          try clear hcz24_1
          try clear hcz24_2
          try clear hcz24_3
          try clear hcz24_4
          try clear hfz11_0
          try clear hfz11_1
          try clear hfz11_2
          try clear hfz11_3
          try clear hfz11_4
          try clear hfz12_0
          try clear hfz12_1
          try clear hfz12_2
          try clear hfz12_3
          try clear hfz12_4
          try clear hfz14_0
          try clear hfz14_1
          try clear hfz14_2
          try clear hfz14_3
          try clear hfz14_4
          try clear hfz15_0
          try clear hfz15_1
          try clear hfz15_2
          try clear hfz15_3
          try clear hfz15_4
          try clear hfz17_0
          try clear hfz17_1
          try clear hfz17_2
          try clear hfz17_3
          try clear hfz17_4
          try clear hfz18_0
          try clear hfz18_1
          try clear hfz18_2
          try clear hfz18_3
          try clear hfz18_4
          try clear hfz20_0
          try clear hfz20_1
          try clear hfz20_2
          try clear hfz20_3
          try clear hfz20_4
          try clear hfz21_0
          try clear hfz21_1
          try clear hfz21_2
          try clear hfz21_3
          try clear hfz21_4
          try clear hfz23_0
          try clear hfz23_1
          try clear hfz23_2
          try clear hfz23_3
          try clear hfz23_4
          try clear hfz24_0
          try clear hfz24_1
          try clear hfz24_2
          try clear hfz24_3
          try clear hfz24_4
          try clear p2
          obtain ⟨x5_2, rfl, HA, HK2, BK236, BK237, HB⟩ := hrel
          cases gk with
          | zero => exact absurd HA.out (by simp [ravelinref16_Same.l0])
          | succ k2 =>
            have H := HA.out
            clear HA
            simp only [ravelinref16_Same.l0] at H
            by_cases c26 : x5_2 < (l0_3.length : Int)
            · rw [if_pos c26] at H
              have c26b0 : decide (x5_2 < (l0_3.length : Int)) = true := decide_eq_true c26
              clear c26
              by_cases c27 : 0 ≤ x5_2
              · rw [if_pos c27] at H
                have c27b0 : decide (0 ≤ x5_2) = true := decide_eq_true c27
                clear c27
                by_cases c28 : x5_2 < (l1_3.length : Int)
                · rw [if_pos c28] at H
                  have c28b0 : decide (x5_2 < (l1_3.length : Int)) = true := decide_eq_true c28
                  clear c28
                  by_cases c29 : (rd l0_3 x5_2) = (rd l1_3 x5_2)
                  · rw [if_pos c29] at H
                    have c29b0 : ((rd l0_3 x5_2) == (rd l1_3 x5_2)) = true := beq_iff_eq.mpr c29
                    have c29b1 : ((rd l0_3 x5_2) != (rd l1_3 x5_2)) = false := bne_eq_false_iff_eq.mpr c29
                    clear c29
                    have H' := Aside0.mk H
                    clear H
                    have hnb30 := NB236_237.out
                    have hnc30 := NB237_236.out
                    have hcz31_0 : wr.cell? ⟨gb236, 0, none⟩ = some (.int .i64 a0_0) := (blk_cell BK236.out 0).trans rfl
                    have hcz31_1 : wr.cell? ⟨gb236, 1, none⟩ = some (.int .i64 a0_1) := (blk_cell BK236.out 1).trans rfl
                    have hcz31_2 : wr.cell? ⟨gb236, 2, none⟩ = some (.int .i64 a0_2) := (blk_cell BK236.out 2).trans rfl
                    have hcz31_3 : wr.cell? ⟨gb236, 3, none⟩ = some (.slice A0_3 l0_3.length c0_3) := (blk_cell BK236.out 3).trans rfl
                    have hcz31_4 : wr.cell? ⟨gb236, 4, none⟩ = some (.slice A0_4 l0_4.length c0_4) := (blk_cell BK236.out 4).trans rfl
                    have hfz31_0 := blk_frozen BK236.out 0
                    have hfz31_1 := blk_frozen BK236.out 1
                    have hfz31_2 := blk_frozen BK236.out 2
                    have hfz31_3 := blk_frozen BK236.out 3
                    have hfz31_4 := blk_frozen BK236.out 4
                    have p238 : 0 ≤ (x5_2 : Int) := of_decide_eq_true (by first | (with_reducible assumption) | assumption)
                    have q238 : x5_2 < (l0_3.length : Int) := of_decide_eq_true (by first | (with_reducible assumption) | assumption)
                    obtain ⟨ad238, e238, hx238_0⟩ := Kd.at_int HR0_3.out x5_2 p238 q238
                    cases e238
                    replace hx238_0 := (HB.out.cell (World.block_lt_of_cell? w _ hx238_0)).trans hx238_0
                    replace p238 := eq_true p238
                    replace q238 := eq_true q238
                    have hcz32_0 : wr.cell? ⟨gb237, 0, none⟩ = some (.int .i64 a1_0) := (blk_cell BK237.out 0).trans rfl
                    have hcz32_1 : wr.cell? ⟨gb237, 1, none⟩ = some (.int .i64 a1_1) := (blk_cell BK237.out 1).trans rfl
                    have hcz32_2 : wr.cell? ⟨gb237, 2, none⟩ = some (.int .i64 a1_2) := (blk_cell BK237.out 2).trans rfl
                    have hcz32_3 : wr.cell? ⟨gb237, 3, none⟩ = some (.slice A1_3 l1_3.length c1_3) := (blk_cell BK237.out 3).trans rfl
                    have hcz32_4 : wr.cell? ⟨gb237, 4, none⟩ = some (.slice A1_4 l1_4.length c1_4) := (blk_cell BK237.out 4).trans rfl
                    have hfz32_0 := blk_frozen BK237.out 0
                    have hfz32_1 := blk_frozen BK237.out 1
                    have hfz32_2 := blk_frozen BK237.out 2
                    have hfz32_3 := blk_frozen BK237.out 3
                    have hfz32_4 := blk_frozen BK237.out 4
                    have p239 : 0 ≤ (x5_2 : Int) := of_decide_eq_true (by first | (with_reducible assumption) | assumption)
                    have q239 : x5_2 < (l1_3.length : Int) := of_decide_eq_true (by first | (with_reducible assumption) | assumption)
                    obtain ⟨ad239, e239, hx239_0⟩ := Kd.at_int HR1_3.out x5_2 p239 q239
                    cases e239
                    replace hx239_0 := (HB.out.cell (World.block_lt_of_cell? w _ hx239_0)).trans hx239_0
                    replace p239 := eq_true p239
                    replace q239 := eq_true q239
                    go_wp2
                    repeat (go_quiet (fail); try go_wp2)
                    go_roundg k2
                    case measure => have := HJ2.out; have := HK2.out; omega
                    case rel => exact ⟨(wrap64 (x5_2 + 1)), (by first | rfl | (simp; done) | (simp [*]; done)), H', ⟨by have := HJ2.out; have := HK2.out; omega⟩, ⟨by (with_reducible repeat (first | refine blk_drewN ?_ _ | refine blk_drew ?_ | refine blk_alloc ?_ _)); exact BK236.out⟩, ⟨by (with_reducible repeat (first | refine blk_drewN ?_ _ | refine blk_drew ?_ | refine blk_alloc ?_ _)); exact BK237.out⟩, ⟨by repeat (first | (with_reducible first | exact HB.out | apply below_alloc | apply pw_below_drewN | apply below_drew1 | refine below_set ?_ GE236.out | refine below_set ?_ GE237.out) | exact HB.out)⟩⟩
                  · rw [if_neg c29] at H
                    have c29b0 : ((rd l0_3 x5_2) == (rd l1_3 x5_2)) = false := beq_eq_false_iff_ne.mpr c29
                    have c29b1 : ((rd l0_3 x5_2) != (rd l1_3 x5_2)) = true := bne_iff_ne.mpr c29
                    obtain rfl := Option.some.inj H
                    have hnb33 := NB236_237.out
                    have hnc33 := NB237_236.out
                    have hcz34_0 : wr.cell? ⟨gb236, 0, none⟩ = some (.int .i64 a0_0) := (blk_cell BK236.out 0).trans rfl
                    have hcz34_1 : wr.cell? ⟨gb236, 1, none⟩ = some (.int .i64 a0_1) := (blk_cell BK236.out 1).trans rfl
                    have hcz34_2 : wr.cell? ⟨gb236, 2, none⟩ = some (.int .i64 a0_2) := (blk_cell BK236.out 2).trans rfl
                    have hcz34_3 : wr.cell? ⟨gb236, 3, none⟩ = some (.slice A0_3 l0_3.length c0_3) := (blk_cell BK236.out 3).trans rfl
                    have hcz34_4 : wr.cell? ⟨gb236, 4, none⟩ = some (.slice A0_4 l0_4.length c0_4) := (blk_cell BK236.out 4).trans rfl
                    have hfz34_0 := blk_frozen BK236.out 0
                    have hfz34_1 := blk_frozen BK236.out 1
                    have hfz34_2 := blk_frozen BK236.out 2
                    have hfz34_3 := blk_frozen BK236.out 3
                    have hfz34_4 := blk_frozen BK236.out 4
                    have p238 : 0 ≤ (x5_2 : Int) := of_decide_eq_true (by first | (with_reducible assumption) | assumption)
                    have q238 : x5_2 < (l0_3.length : Int) := of_decide_eq_true (by first | (with_reducible assumption) | assumption)
                    obtain ⟨ad238, e238, hx238_0⟩ := Kd.at_int HR0_3.out x5_2 p238 q238
                    cases e238
                    replace hx238_0 := (HB.out.cell (World.block_lt_of_cell? w _ hx238_0)).trans hx238_0
                    replace p238 := eq_true p238
                    replace q238 := eq_true q238
                    have hcz35_0 : wr.cell? ⟨gb237, 0, none⟩ = some (.int .i64 a1_0) := (blk_cell BK237.out 0).trans rfl
                    have hcz35_1 : wr.cell? ⟨gb237, 1, none⟩ = some (.int .i64 a1_1) := (blk_cell BK237.out 1).trans rfl
                    have hcz35_2 : wr.cell? ⟨gb237, 2, none⟩ = some (.int .i64 a1_2) := (blk_cell BK237.out 2).trans rfl
                    have hcz35_3 : wr.cell? ⟨gb237, 3, none⟩ = some (.slice A1_3 l1_3.length c1_3) := (blk_cell BK237.out 3).trans rfl
                    have hcz35_4 : wr.cell? ⟨gb237, 4, none⟩ = some (.slice A1_4 l1_4.length c1_4) := (blk_cell BK237.out 4).trans rfl
                    have hfz35_0 := blk_frozen BK237.out 0
                    have hfz35_1 := blk_frozen BK237.out 1
                    have hfz35_2 := blk_frozen BK237.out 2
                    have hfz35_3 := blk_frozen BK237.out 3
                    have hfz35_4 := blk_frozen BK237.out 4
                    have p239 : 0 ≤ (x5_2 : Int) := of_decide_eq_true (by first | (with_reducible assumption) | assumption)
                    have q239 : x5_2 < (l1_3.length : Int) := of_decide_eq_true (by first | (with_reducible assumption) | assumption)
                    obtain ⟨ad239, e239, hx239_0⟩ := Kd.at_int HR1_3.out x5_2 p239 q239
                    cases e239
                    replace hx239_0 := (HB.out.cell (World.block_lt_of_cell? w _ hx239_0)).trans hx239_0
                    replace p239 := eq_true p239
                    replace q239 := eq_true q239
                    go_wp2
                    repeat (go_quiet (fail); try go_wp2)
                    go_ret
                    exact ⟨by first | rfl | (simp [errW_none, errW_some] <;> rfl) | (simp [*, errW_none, errW_some] <;> rfl), by repeat (first | (with_reducible first | exact HB.out | apply below_alloc | apply pw_below_drewN | apply below_drew1 | refine below_set ?_ GE236.out | refine below_set ?_ GE237.out) | exact HB.out)⟩
                · rw [if_neg c28] at H
                  exact absurd H (by simp)
              · rw [if_neg c27] at H
                exact absurd H (by simp)
            · rw [if_neg c26] at H
              have c26b0 : decide (x5_2 < (l0_3.length : Int)) = false := decide_eq_false c26
              clear c26
              have H' := Aside0.mk H
              clear H
              have hnb36 := NB236_237.out
              have hnc36 := NB237_236.out
              have hcz37_0 : wr.cell? ⟨gb236, 0, none⟩ = some (.int .i64 a0_0) := (blk_cell BK236.out 0).trans rfl
              have hcz37_1 : wr.cell? ⟨gb236, 1, none⟩ = some (.int .i64 a0_1) := (blk_cell BK236.out 1).trans rfl
              have hcz37_2 : wr.cell? ⟨gb236, 2, none⟩ = some (.int .i64 a0_2) := (blk_cell BK236.out 2).trans rfl
              have hcz37_3 : wr.cell? ⟨gb236, 3, none⟩ = some (.slice A0_3 l0_3.length c0_3) := (blk_cell BK236.out 3).trans rfl
              have hcz37_4 : wr.cell? ⟨gb236, 4, none⟩ = some (.slice A0_4 l0_4.length c0_4) := (blk_cell BK236.out 4).trans rfl
              have hfz37_0 := blk_frozen BK236.out 0
              have hfz37_1 := blk_frozen BK236.out 1
              have hfz37_2 := blk_frozen BK236.out 2
              have hfz37_3 := blk_frozen BK236.out 3
              have hfz37_4 := blk_frozen BK236.out 4
              go_wp2
              repeat (go_quiet (fail); try go_wp2)
              go_loopg [6] k2 (fun kq v6 w' => ∃ (x6_3 : Int), v6 = .int .i64 x6_3 ∧ Aside0 (ravelinref16_Same.l1 kq x6_3 a0_0 a0_1 a0_2 l0_3 l0_4 a1_0 a1_1 a1_2 l1_3 l1_4 = some r) ∧ Aside0 (kq ≤ k2) ∧ Aside0 (w'.heap[gb236]? = some (.cells #[.int .i64 a0_0, .int .i64 a0_1, .int .i64 a0_2, (.slice A0_3 l0_3.length c0_3), (.slice A0_4 l0_4.length c0_4)] 31 (0, 0))) ∧ Aside0 (w'.heap[gb237]? = some (.cells #[.int .i64 a1_0, .int .i64 a1_1, .int .i64 a1_2, (.slice A1_3 l1_3.length c1_3), (.slice A1_4 l1_4.length c1_4)] 31 (0, 0))) ∧ Aside0 (Below w.heap.size w w'))
              case atStart => exact ⟨(0), (by first | rfl | (simp; done) | (simp [*]; done)), H', ⟨Nat.le_refl _⟩, ⟨by (with_reducible repeat (first | refine blk_drewN ?_ _ | refine blk_drew ?_ | refine blk_alloc ?_ _)); exact BK236.out⟩, ⟨by (with_reducible repeat (first | refine blk_drewN ?_ _ | refine blk_drew ?_ | refine blk_alloc ?_ _)); exact BK237.out⟩, ⟨by repeat (first | (with_reducible first | exact HB.out | apply below_alloc | apply pw_below_drewN | apply below_drew1 | refine below_set ?_ GE236.out | refine below_set ?_ GE237.out) | exact HB.out)⟩⟩
              case round =>
                clear H'
                try clear c1
                try clear c2
                try clear p2
                try clear q2
                try clear hx2
                try clear c3
                try clear c6
                try clear c6b0
                try clear c6b1
                try clear p6
                try clear c7
                try clear c7b0
                try clear c7b1
                try clear c8
                try clear c8b0
                try clear c8b1
                try clear c9
                try clear c9b0
                try clear c9b1
                try clear c9b2
                try clear c10
                try clear c13
                try clear c14
                try clear c16
                try clear c19
                try clear c22
                try clear p23
                try clear q23
                try clear hx23
                try clear c25
                try clear c26
                try clear c26b0
                try clear c27
                try clear c27b0
                try clear c28
                try clear c28b0
                try clear c29
                try clear c29b0
                try clear c29b1
                try clear c30
                try clear c33
                try clear c36
                try clear hcz11_0
                try clear hcz11_1
                try clear hcz11_2
                try clear hcz11_3
                try clear hcz11_4
                try clear hcz12_0
                try clear hcz12_1
                try clear hcz12_2
                try clear hcz12_3
                try clear hcz12_4
                try clear hcz14_0
                try clear hcz14_1
                try clear hcz14_2
                try clear hcz14_3
                try clear hcz14_4
                try clear hcz15_0
                try clear hcz15_1
                try clear hcz15_2
                try clear hcz15_3
                try clear hcz15_4
                try clear hcz17_0
                try clear hcz17_1
                try clear hcz17_2
                try clear hcz17_3
                try clear hcz17_4
                try clear hcz18_0
                try clear hcz18_1
                try clear hcz18_2
                try clear hcz18_3
                try clear hcz18_4
                try clear hcz20_0
                try clear hcz20_1
                try clear hcz20_2
                try clear hcz20_3
                try clear hcz20_4
                try clear hcz21_0
                try clear hcz21_1
                try clear hcz21_2
                try clear hcz21_3
                try clear hcz21_4
                try clear hcz23_0
                try clear hcz23_1
                try clear hcz23_2
                try clear hcz23_3
                try clear hcz23_4
                try clear hcz24_0
                try clear hcz24_1
                try clear hcz24_2
                try clear hcz24_3
                try clear hcz24_4
                try clear hcz31_0
                try clear hcz31_1
                try clear hcz31_2
                try clear hcz31_3
                try clear hcz31_4
                try clear hcz32_0
                try clear hcz32_1
                try clear hcz32_2
                try clear hcz32_3
                try clear hcz32_4
                try clear hcz34_0
                try clear hcz34_1
                try clear hcz34_2
                try clear hcz34_3
                try clear hcz34_4
                try clear hcz35_0
                try clear hcz35_1
                try clear hcz35_2
                try clear hcz35_3
                try clear hcz35_4
                try clear hcz37_0
                try clear hcz37_1
                try clear hcz37_2
                try clear hcz37_3
                try clear hcz37_4
                try clear hfz11_0
                try clear hfz11_1
                try clear hfz11_2
                try clear hfz11_3
                try clear hfz11_4
                try clear hfz12_0
                try clear hfz12_1
                try clear hfz12_2
                try clear hfz12_3
                try clear hfz12_4
                try clear hfz14_0
                try clear hfz14_1
                try clear hfz14_2
                try clear hfz14_3
                try clear hfz14_4
                try clear hfz15_0
                try clear hfz15_1
                try clear hfz15_2
                try clear hfz15_3
                try clear hfz15_4
                try clear hfz17_0
                try clear hfz17_1
                try clear hfz17_2
                try clear hfz17_3
                try clear hfz17_4
                try clear hfz18_0
                try clear hfz18_1
                try clear hfz18_2
                try clear hfz18_3
                try clear hfz18_4
                try clear hfz20_0
                try clear hfz20_1
                try clear hfz20_2
                try clear hfz20_3
                try clear hfz20_4
                try clear hfz21_0
                try clear hfz21_1
                try clear hfz21_2
                try clear hfz21_3
                try clear hfz21_4
                try clear hfz23_0
                try clear hfz23_1
                try clear hfz23_2
                try clear hfz23_3
                try clear hfz23_4
                try clear hfz24_0
                try clear hfz24_1
                try clear hfz24_2
                try clear hfz24_3
                try clear hfz24_4
                try clear hfz31_0
                try clear hfz31_1
                try clear hfz31_2
                try clear hfz31_3
                try clear hfz31_4
                try clear hfz32_0
                try clear hfz32_1
                try clear hfz32_2
                try clear hfz32_3
                try clear hfz32_4
                try clear hfz34_0
                try clear hfz34_1
                try clear hfz34_2
                try clear hfz34_3
                try clear hfz34_4
                try clear hfz35_0
                try clear hfz35_1
                try clear hfz35_2
                try clear hfz35_3
                try clear hfz35_4
                try clear hfz37_0
                try clear hfz37_1
                try clear hfz37_2
                try clear hfz37_3
                try clear hfz37_4
                try clear hx238_0
                try clear hx239_0
                try clear p2
                try clear p238
                try clear p239
                try clear q238
                try clear q239
                obtain ⟨x6_3, rfl, HA, HK3, BK236, BK237, HB⟩ := hrel
                cases gk with
                | zero => exact absurd HA.out (by simp [ravelinref16_Same.l1])
                | succ k3 =>
                  have H := HA.out
                  clear HA
                  simp only [ravelinref16_Same.l1] at H
                  by_cases c38 : x6_3 < (l0_4.length : Int)
                  · rw [if_pos c38] at H
                    have c38b0 : decide (x6_3 < (l0_4.length : Int)) = true := decide_eq_true c38
                    clear c38
                    by_cases c39 : 0 ≤ x6_3
                    · rw [if_pos c39] at H
                      have c39b0 : decide (0 ≤ x6_3) = true := decide_eq_true c39
                      clear c39
                      by_cases c40 : x6_3 < (l1_4.length : Int)
                      · rw [if_pos c40] at H
                        have c40b0 : decide (x6_3 < (l1_4.length : Int)) = true := decide_eq_true c40
                        clear c40
                        by_cases c41 : (!(((rd_T54 l0_4 x6_3).f0) == ((rd_T54 l1_4 x6_3).f0)) || (!(((rd_T54 l0_4 x6_3).f1) == ((rd_T54 l1_4 x6_3).f1)) || (!(((rd_T54 l0_4 x6_3).f2) == ((rd_T54 l1_4 x6_3).f2))))) = true
                        · rw [if_pos c41] at H
                          have c41b0 : (!(((rd_T54 l0_4 x6_3).f0) == ((rd_T54 l1_4 x6_3).f0)) || (!(((rd_T54 l0_4 x6_3).f1) == ((rd_T54 l1_4 x6_3).f1)) || (!(((rd_T54 l0_4 x6_3).f2) == ((rd_T54 l1_4 x6_3).f2))))) = true := c41
                          clear c41
                          obtain rfl := Option.some.inj H
                          have hnb42 := NB236_237.out
                          have hnc42 := NB237_236.out
                          have hcz43_0 : wr.cell? ⟨gb236, 0, none⟩ = some (.int .i64 a0_0) := (blk_cell BK236.out 0).trans rfl
                          have hcz43_1 : wr.cell? ⟨gb236, 1, none⟩ = some (.int .i64 a0_1) := (blk_cell BK236.out 1).trans rfl
                          have hcz43_2 : wr.cell? ⟨gb236, 2, none⟩ = some (.int .i64 a0_2) := (blk_cell BK236.out 2).trans rfl
                          have hcz43_3 : wr.cell? ⟨gb236, 3, none⟩ = some (.slice A0_3 l0_3.length c0_3) := (blk_cell BK236.out 3).trans rfl
                          have hcz43_4 : wr.cell? ⟨gb236, 4, none⟩ = some (.slice A0_4 l0_4.length c0_4) := (blk_cell BK236.out 4).trans rfl
                          have hfz43_0 := blk_frozen BK236.out 0
                          have hfz43_1 := blk_frozen BK236.out 1
                          have hfz43_2 := blk_frozen BK236.out 2
                          have hfz43_3 := blk_frozen BK236.out 3
                          have hfz43_4 := blk_frozen BK236.out 4
                          have p240 : 0 ≤ (x6_3 : Int) := of_decide_eq_true (by first | (with_reducible assumption) | assumption)
                          have q240 : x6_3 < (l0_4.length : Int) := of_decide_eq_true (by first | (with_reducible assumption) | assumption)
                          obtain ⟨ad240, e240, hx240_0, hx240_1, hx240_2⟩ := at_T54 HR0_4.out x6_3 p240 q240
                          cases e240
                          replace hx240_0 := (HB.out.cell (World.block_lt_of_cell? w _ hx240_0)).trans hx240_0
                          replace hx240_1 := (HB.out.cell (World.block_lt_of_cell? w _ hx240_1)).trans hx240_1
                          replace hx240_2 := (HB.out.cell (World.block_lt_of_cell? w _ hx240_2)).trans hx240_2
                          replace p240 := eq_true p240
                          replace q240 := eq_true q240
                          have hcz44_0 : wr.cell? ⟨gb237, 0, none⟩ = some (.int .i64 a1_0) := (blk_cell BK237.out 0).trans rfl
                          have hcz44_1 : wr.cell? ⟨gb237, 1, none⟩ = some (.int .i64 a1_1) := (blk_cell BK237.out 1).trans rfl
                          have hcz44_2 : wr.cell? ⟨gb237, 2, none⟩ = some (.int .i64 a1_2) := (blk_cell BK237.out 2).trans rfl
                          have hcz44_3 : wr.cell? ⟨gb237, 3, none⟩ = some (.slice A1_3 l1_3.length c1_3) := (blk_cell BK237.out 3).trans rfl
                          have hcz44_4 : wr.cell? ⟨gb237, 4, none⟩ = some (.slice A1_4 l1_4.length c1_4) := (blk_cell BK237.out 4).trans rfl
                          have hfz44_0 := blk_frozen BK237.out 0
                          have hfz44_1 := blk_frozen BK237.out 1
                          have hfz44_2 := blk_frozen BK237.out 2
                          have hfz44_3 := blk_frozen BK237.out 3
                          have hfz44_4 := blk_frozen BK237.out 4
                          have p241 : 0 ≤ (x6_3 : Int) := of_decide_eq_true (by first | (with_reducible assumption) | assumption)
                          have q241 : x6_3 < (l1_4.length : Int) := of_decide_eq_true (by first | (with_reducible assumption) | assumption)
                          obtain ⟨ad241, e241, hx241_0, hx241_1, hx241_2⟩ := at_T54 HR1_4.out x6_3 p241 q241
                          cases e241
                          replace hx241_0 := (HB.out.cell (World.block_lt_of_cell? w _ hx241_0)).trans hx241_0
                          replace hx241_1 := (HB.out.cell (World.block_lt_of_cell? w _ hx241_1)).trans hx241_1
                          replace hx241_2 := (HB.out.cell (World.block_lt_of_cell? w _ hx241_2)).trans hx241_2
                          replace p241 := eq_true p241
                          replace q241 := eq_true q241
                          go_wp2
                          repeat (go_quiet (fail); try go_wp2)
                          go_ret
                          exact ⟨by first | rfl | (simp [errW_none, errW_some] <;> rfl) | (simp [*, errW_none, errW_some] <;> rfl), by repeat (first | (with_reducible first | exact HB.out | apply below_alloc | apply pw_below_drewN | apply below_drew1 | refine below_set ?_ GE236.out | refine below_set ?_ GE237.out) | exact HB.out)⟩
                        · rw [if_neg c41] at H
                          have c41b0 : (!(((rd_T54 l0_4 x6_3).f0) == ((rd_T54 l1_4 x6_3).f0)) || (!(((rd_T54 l0_4 x6_3).f1) == ((rd_T54 l1_4 x6_3).f1)) || (!(((rd_T54 l0_4 x6_3).f2) == ((rd_T54 l1_4 x6_3).f2))))) = false := by simpa using c41
                          clear c41
                          have H' := Aside0.mk H
                          clear H
                          have hnb45 := NB236_237.out
                          have hnc45 := NB237_236.out
                          have hcz46_0 : wr.cell? ⟨gb236, 0, none⟩ = some (.int .i64 a0_0) := (blk_cell BK236.out 0).trans rfl
                          have hcz46_1 : wr.cell? ⟨gb236, 1, none⟩ = some (.int .i64 a0_1) := (blk_cell BK236.out 1).trans rfl
                          have hcz46_2 : wr.cell? ⟨gb236, 2, none⟩ = some (.int .i64 a0_2) := (blk_cell BK236.out 2).trans rfl
                          have hcz46_3 : wr.cell? ⟨gb236, 3, none⟩ = some (.slice A0_3 l0_3.length c0_3) := (blk_cell BK236.out 3).trans rfl
                          have hcz46_4 : wr.cell? ⟨gb236, 4, none⟩ = some (.slice A0_4 l0_4.length c0_4) := (blk_cell BK236.out 4).trans rfl
                          have hfz46_0 := blk_frozen BK236.out 0
                          have hfz46_1 := blk_frozen BK236.out 1
                          have hfz46_2 := blk_frozen BK236.out 2
                          have hfz46_3 := blk_frozen BK236.out 3
                          have hfz46_4 := blk_frozen BK236.out 4
                          have p240 : 0 ≤ (x6_3 : Int) := of_decide_eq_true (by first | (with_reducible assumption) | assumption)
                          have q240 : x6_3 < (l0_4.length : Int) := of_decide_eq_true (by first | (with_reducible assumption) | assumption)
                          obtain ⟨ad240, e240, hx240_0, hx240_1, hx240_2⟩ := at_T54 HR0_4.out x6_3 p240 q240
                          cases e240
                          replace hx240_0 := (HB.out.cell (World.block_lt_of_cell? w _ hx240_0)).trans hx240_0
                          replace hx240_1 := (HB.out.cell (World.block_lt_of_cell? w _ hx240_1)).trans hx240_1
                          replace hx240_2 := (HB.out.cell (World.block_lt_of_cell? w _ hx240_2)).trans hx240_2
                          replace p240 := eq_true p240
                          replace q240 := eq_true q240
                          have hcz47_0 : wr.cell? ⟨gb237, 0, none⟩ = some (.int .i64 a1_0) := (blk_cell BK237.out 0).trans rfl
                          have hcz47_1 : wr.cell? ⟨gb237, 1, none⟩ = some (.int .i64 a1_1) := (blk_cell BK237.out 1).trans rfl
                          have hcz47_2 : wr.cell? ⟨gb237, 2, none⟩ = some (.int .i64 a1_2) := (blk_cell BK237.out 2).trans rfl
                          have hcz47_3 : wr.cell? ⟨gb237, 3, none⟩ = some (.slice A1_3 l1_3.length c1_3) := (blk_cell BK237.out 3).trans rfl
                          have hcz47_4 : wr.cell? ⟨gb237, 4, none⟩ = some (.slice A1_4 l1_4.length c1_4) := (blk_cell BK237.out 4).trans rfl
                          have hfz47_0 := blk_frozen BK237.out 0
                          have hfz47_1 := blk_frozen BK237.out 1
                          have hfz47_2 := blk_frozen BK237.out 2
                          have hfz47_3 := blk_frozen BK237.out 3
                          have hfz47_4 := blk_frozen BK237.out 4
                          have p241 : 0 ≤ (x6_3 : Int) := of_decide_eq_true (by first | (with_reducible assumption) | assumption)
                          have q241 : x6_3 < (l1_4.length : Int) := of_decide_eq_true (by first | (with_reducible assumption) | assumption)
                          obtain ⟨ad241, e241, hx241_0, hx241_1, hx241_2⟩ := at_T54 HR1_4.out x6_3 p241 q241
                          cases e241
                          replace hx241_0 := (HB.out.cell (World.block_lt_of_cell? w _ hx241_0)).trans hx241_0
                          replace hx241_1 := (HB.out.cell (World.block_lt_of_cell? w _ hx241_1)).trans hx241_1
                          replace hx241_2 := (HB.out.cell (World.block_lt_of_cell? w _ hx241_2)).trans hx241_2
                          replace p241 := eq_true p241
                          replace q241 := eq_true q241
                          go_wp2
                          repeat (go_quiet (fail); try go_wp2)
                          go_roundg k3
                          case measure => have := HJ2.out; have := HK2.out; have := HK3.out; omega
                          case rel => exact ⟨(wrap64 (x6_3 + 1)), (by first | rfl | (simp; done) | (simp [*]; done)), H', ⟨by have := HJ2.out; have := HK2.out; have := HK3.out; omega⟩, ⟨by (with_reducible repeat (first | refine blk_drewN ?_ _ | refine blk_drew ?_ | refine blk_alloc ?_ _)); exact BK236.out⟩, ⟨by (with_reducible repeat (first | refine blk_drewN ?_ _ | refine blk_drew ?_ | refine blk_alloc ?_ _)); exact BK237.out⟩, ⟨by repeat (first | (with_reducible first | exact HB.out | apply below_alloc | apply pw_below_drewN | apply below_drew1 | refine below_set ?_ GE236.out | refine below_set ?_ GE237.out) | exact HB.out)⟩⟩
                      · rw [if_neg c40] at H
                        exact absurd H (by simp)
                    · rw [if_neg c39] at H
                      exact absurd H (by simp)
                  · rw [if_neg c38] at H
                    have c38b0 : decide (x6_3 < (l0_4.length : Int)) = false := decide_eq_false c38
                    clear c38
                    obtain rfl := Option.some.inj H
                    have hnb48 := NB236_237.out
                    have hnc48 := NB237_236.out
                    have hcz49_0 : wr.cell? ⟨gb236, 0, none⟩ = some (.int .i64 a0_0) := (blk_cell BK236.out 0).trans rfl
                    have hcz49_1 : wr.cell? ⟨gb236, 1, none⟩ = some (.int .i64 a0_1) := (blk_cell BK236.out 1).trans rfl
                    have hcz49_2 : wr.cell? ⟨gb236, 2, none⟩ = some (.int .i64 a0_2) := (blk_cell BK236.out 2).trans rfl
                    have hcz49_3 : wr.cell? ⟨gb236, 3, none⟩ = some (.slice A0_3 l0_3.length c0_3) := (blk_cell BK236.out 3).trans rfl
                    have hcz49_4 : wr.cell? ⟨gb236, 4, none⟩ = some (.slice A0_4 l0_4.length c0_4) := (blk_cell BK236.out 4).trans rfl
                    have hfz49_0 := blk_frozen BK236.out 0
                    have hfz49_1 := blk_frozen BK236.out 1
                    have hfz49_2 := blk_frozen BK236.out 2
                    have hfz49_3 := blk_frozen BK236.out 3
                    have hfz49_4 := blk_frozen BK236.out 4
                    go_wp2
                    repeat (go_quiet (fail); try go_wp2)
                    go_ret
                    exact ⟨by first | rfl | (simp [errW_none, errW_some] <;> rfl) | (simp [*, errW_none, errW_some] <;> rfl), by repeat (first | (with_reducible first | exact HB.out | apply below_alloc | apply pw_below_drewN | apply below_drew1 | refine below_set ?_ GE236.out | refine below_set ?_ GE237.out) | exact HB.out)⟩

end Go.Proofs.YtcgkgaibomcheaaGreat.PRvemuRuns
end

section
/- Equal outcomes are the same; more fuel changes nothing: in plain numbers. No memory here. -/
namespace Go.Proofs.YtcgkgaibomcheaaGreat.SameP
open Go.RowKit Go.Proofs.YtcgkgaibomcheaaGreat.Bits Go.Proofs.YtcgkgaibomcheaaGreat.Mac Go.Proofs.YtcgkgaibomcheaaGreat.Dec Go.Proofs.YtcgkgaibomcheaaGreat.NewM Go.Proofs.YtcgkgaibomcheaaGreat.Pure Go.Proofs.YtcgkgaibomcheaaGreat.Goes Go.Proofs.YtcgkgaibomcheaaGreat.EOut Go.Proofs.YtcgkgaibomcheaaGreat.PRvemuRuns Go.Proofs.YtcgkgaibomcheaaGreatW.PrintWords
set_option linter.unusedVariables false
set_option linter.unusedSimpArgs false
theorem wr1 (i : Nat) (hi : i < 9223372036854775807) : wrap64 ((i : Int) + 1) = ((i + 1 : Nat) : Int) := by unfold wrap64; omega
theorem same_l1 (a b c a' b' c' : Int) (L L' : List Int) (T : List S54) (hT : T.length ≤ 1000000) : ∀ (j k i : Nat), i + j = T.length → j < k → ravelinref16_Same.l1 k (i : Int) a b c L T a' b' c' L' T = some true
  | 0, k + 1, i, hi, _ => by
    unfold ravelinref16_Same.l1
    rw [if_neg (by omega)]
  | j + 1, k + 1, i, hi, hk => by
    unfold ravelinref16_Same.l1
    rw [if_pos (by omega), if_pos (by omega), if_pos (by omega), if_neg (by simp), wr1 i (by omega)]
    exact same_l1 a b c a' b' c' L L' T hT j k (i + 1) (by omega) (by omega)
theorem same_l0 (a b c a' b' c' : Int) (L : List Int) (T : List S54) (hL : L.length ≤ 1000000) (hT : T.length ≤ 1000000) : ∀ (j k i : Nat), i + j = L.length → j + T.length + 1 < k → ravelinref16_Same.l0 k (i : Int) a b c L T a' b' c' L T = some true
  | 0, k + 1, i, hi, hk => by
    unfold ravelinref16_Same.l0
    rw [if_neg (by omega)]
    exact same_l1 a b c a' b' c' L L T hT T.length k 0 (by omega) (by omega)
  | j + 1, k + 1, i, hi, hk => by
    unfold ravelinref16_Same.l0
    rw [if_pos (by omega), if_pos (by omega), if_pos (by omega), if_pos rfl, wr1 i (by omega)]
    exact same_l0 a b c a' b' c' L T hL hT j k (i + 1) (by omega) (by omega)
theorem same_eq (a b c : Int) (L : List Int) (T : List S54) (hL : L.length ≤ 1000000) (hT : T.length ≤ 1000000) : ravelinref16_Same.f (L.length + T.length + 10) a b c L T a b c L T = some true := by
  unfold ravelinref16_Same.f
  rw [if_pos rfl, if_pos rfl, if_pos rfl, if_pos rfl]
  show ravelinref16_Same.j0 ((L.length + T.length + 9) + 1) _ _ _ _ _ _ _ _ _ _ _ = _
  rw [ravelinref16_Same.j0, if_neg (by simp)]
  exact same_l0 a b c a b c L T hL hT L.length _ 0 (by omega) (by omega)

/-- With another fuel. -/
def wf (m : Mac) (f : Int) : Mac := { m with fuel := f }
theorem does_wf (m : Mac) (f : Int) (n wd : Nat) : does (wf m f) n wd = (wf (does m n wd).1 f, (does m n wd).2) := by
  have e1 : ra (wf m f) n wd = ra m n wd := rfl
  have e2 : rb (wf m f) n wd = rb m n wd := rfl
  have e3 : ∀ a k, loads (wf m f) a k = loads m a k := fun a k => rfl
  have es : ∀ (q : Mac) r v, setx (wf q f) r v = wf (setx q r v) f := fun q r v => by
    unfold setx
    by_cases h : r = 0
    · rw [if_pos h, if_pos h]
    · rw [if_neg h, if_neg h]; rfl
  unfold does
  by_cases h10 : n ≤ 10
  · rw [if_pos h10, if_pos h10]
    exact congrArg (fun q => (q, (0 : Int))) (es (setpc m (m.pc + 4#64)) (fdOf n wd) (oneV n (ra m n wd) (im n wd)))
  rw [if_neg h10, if_neg h10]
  by_cases h13 : n ≤ 13
  · rw [if_pos h13, if_pos h13, e1, e3]
    cases loads m (ra m n wd + im n wd) (sz n) with
    | none => rfl
    | some v => exact congrArg (fun q => (q, (0 : Int))) (es (note (setpc m (m.pc + 4#64)) ⟨false, U (ra m n wd + im n wd), sz n⟩) (fdOf n wd) (if n = 12 then Alu.s32 v else v))
  rw [if_neg h13, if_neg h13]
  by_cases h15 : n ≤ 15
  · rw [if_pos h15, if_pos h15]
    by_cases h1 : fr m.frame.length (U (ra m n wd + im n wd)) (sz n) = true
    · rw [if_pos h1, if_pos (show fr (wf m f).frame.length (U (ra (wf m f) n wd + im n wd)) (sz n) = true from h1)]; rfl
    · rw [if_neg h1, if_neg (show ¬ fr (wf m f).frame.length (U (ra (wf m f) n wd + im n wd)) (sz n) = true from h1)]
  rw [if_neg h15, if_neg h15]
  by_cases h28 : n ≤ 28
  · rw [if_pos h28, if_pos h28, e1, e2]
    cases RTwo.two n (ra m n wd) (rb m n wd) with
    | none => rfl
    | some v => exact congrArg (fun q => (q, (0 : Int))) (es (setpc m (m.pc + 4#64)) (fdOf n wd) v)
  rw [if_neg h28, if_neg h28]
  by_cases h32 : n ≤ 32
  · rw [if_pos h32, if_pos h32]; rfl
  rw [if_neg h32, if_neg h32]
  by_cases h33 : n = 33
  · rw [if_pos h33, if_pos h33]
    exact congrArg (fun q => (q, (0 : Int))) (es (setpc m (m.pc + im n wd)) (fdOf n wd) (m.pc + 4#64))
  · rw [if_neg h33, if_neg h33]
    exact congrArg (fun q => (q, (0 : Int))) (es (setpc m ((ra m n wd + im n wd) &&& ~~~1#64)) (fdOf n wd) (m.pc + 4#64))
theorem step_wf (m : Mac) (f : Int) (hf : m.fuel ≤ f) (h : (stepM m).err ≠ 3) : stepM (wf m f) = wf (stepM m) f := by
  unfold stepM at h ⊢
  by_cases hd : m.done = true
  · rw [if_pos hd, if_pos (show (wf m f).done = true from hd)]
  rw [if_neg hd] at h ⊢
  rw [if_neg (show ¬ (wf m f).done = true from hd)]
  by_cases hb : m.pc = back
  · rw [if_pos hb, if_pos (show (wf m f).pc = back from hb)]; rfl
  rw [if_neg hb] at h ⊢
  rw [if_neg (show ¬ (wf m f).pc = back from hb)]
  by_cases hs : m.fuel ≤ m.steps
  · rw [if_pos hs] at h; exact absurd rfl h
  rw [if_neg hs] at h ⊢
  rw [if_neg (show ¬ (wf m f).fuel ≤ (wf m f).steps from by show ¬ f ≤ m.steps; omega)]
  by_cases hft : fetches m = false
  · rw [if_pos hft, if_pos (show fetches (wf m f) = false from hft)]; rfl
  rw [if_neg hft, if_neg (show ¬ fetches (wf m f) = false from hft)]
  rw [show word (wf m f) = word m from rfl]
  cases dec (word m) with
  | none => rfl
  | some n =>
    simp only
    rw [does_wf]
    by_cases h0 : (does m n (word m)).2 = 0
    · rw [if_pos h0, if_pos h0]; rfl
    · rw [if_neg h0, if_neg h0]; rfl
/-- An error is told at the end alone. -/
def Ends0 (m : Mac) : Prop := m.err ≠ 0 → m.done = true
theorem ends_step {m : Mac} (h : Ends0 m) : Ends0 (stepM m) := by
  rcases step_cases m with ⟨_, q⟩ | ⟨hd, er, q⟩ | ⟨hd, _, n, _, _, q⟩
  · rw [q]; exact h
  · rw [q]; exact fun _ => rfl
  · rw [q]
    intro e
    have e1 : (does m n (word m)).1.err = m.err := (does_ok m n _).1.err
    have e2 : (after (does m n (word m)).1).err = (does m n (word m)).1.err := rfl
    rw [e2, e1] at e
    rw [h e] at hd
    cases hd
theorem ends_it {m : Mac} (h : Ends0 m) : ∀ k, Ends0 (it k m)
  | 0 => h
  | k + 1 => ends_step (ends_it h k)
theorem new_ends (lc ld lr ls : List Int) (fr fu : Int) : Ends0 (newM lc ld lr ls fr fu) := by
  unfold newM
  by_cases hb : bad fr
  · rw [if_pos hb]; exact fun _ => rfl
  · rw [if_neg hb]; exact fun h => absurd rfl h
theorem it_wf (m : Mac) (f : Int) (hf : m.fuel ≤ f) (h0 : Ends0 m) : ∀ k, (it k m).err ≠ 3 → it k (wf m f) = wf (it k m) f
  | 0, _ => rfl
  | k + 1, h => by
    have hk : (it k m).err ≠ 3 := by
      intro e
      apply h
      show (stepM (it k m)).err = 3
      have hd : (it k m).done = true := ends_it h0 k (by rw [e]; decide)
      rw [step_done _ hd, e]
    show stepM (it k (wf m f)) = _
    rw [it_wf m f hf h0 k hk]
    exact step_wf _ f (by rw [it_fuel]; exact hf) h
/-- More fuel: the same outcome. -/
theorem run_more (lc ld lr ls : List Int) (fr fu d : Int) (hd : 0 ≤ d) (h : (runM (newM lc ld lr ls fr fu)).err ≠ 3) : runM (newM lc ld lr ls fr (fu + d)) = wf (runM (newM lc ld lr ls fr fu)) (fu + d) := by
  have e : newM lc ld lr ls fr (fu + d) = wf (newM lc ld lr ls fr fu) (fu + d) := by
    unfold newM
    by_cases hb : bad fr
    · rw [if_pos hb, if_pos hb]; rfl
    · rw [if_neg hb, if_neg hb]; rfl
  have h2 := it_wf (newM lc ld lr ls fr fu) (fu + d) (by rw [new_fuel]; omega) (new_ends lc ld lr ls fr fu) ((newM lc ld lr ls fr fu).fuel.toNat + 1) h
  have h3 := it_ends (newM lc ld lr ls fr fu) (new_steps lc ld lr ls fr fu)
  rw [← e] at h2
  have h4 : (it ((newM lc ld lr ls fr fu).fuel.toNat + 1) (newM lc ld lr ls fr (fu + d))).done = true := by rw [h2]; exact h3
  exact (runM_of _ (new_steps lc ld lr ls fr (fu + d)) h4).trans h2
end Go.Proofs.YtcgkgaibomcheaaGreat.SameP
end
