/- Joined out of this claim's texts: PRvemuRunsx4. Conditions: those of each theorem. -/
import Derived.Test.YtcgkgaibomcheaaGreatZC01
import Derived.Test.YtcgkgaibomcheaaGreatZC03
import Derived.Test.YtcgkgaibomcheaaGreatZC04
import Derived.Test.YtcgkgaibomcheaaGreatZC05
set_option linter.unusedVariables false
set_option linter.unusedSimpArgs false
section
namespace Go.Proofs.YtcgkgaibomcheaaGreat.PRvemuRuns
open Go.RowKit YtcgkgaibomcheaaGreatW.PrintWords YtcgkgaibomcheaaGreatW.PrintLast YtcgkgaibomcheaaGreatW.PrintMore
attribute [local go_sem] max2_int min2_int max_two min_two max_three min_three max_four min_four
mutual
def ravelinref15_Encode.j0 : Nat → Bool → Bool → Bool → Bool → Int → Int → Int → Int → Int → Int → Int → Int → Int → Int → ByteArray → Option (Int × Int)
  | 0, _, _, _, _, _, _, _, _, _, _, _, _, _, _, _ => none
  | k + 1, x6, x7, x8, x50, x135000, x135001, x135002, x135003, x135004, x143000, x143001, x143002, x143003, x143004, x143005 => if x50 = true then (some (0, 151)) else ((ravelinref15_imm.f k x143001 x135004).bind fun t149 => (if t149 = true then ((ravelinref15_lay.f k x143001 x135004).bind fun t150 => (if x6 = true then (ravelinref15_Encode.j1 k x7 x8 (Go.bits .or .u32 (Go.bits .or .u32 x143002 t150) ((((x135001) % 4294967296) * 128) % 4294967296)) x135000 x135001 x135002 x135003 x135004 x143000 x143001 x143002 x143003 x143004 x143005) else (ravelinref15_Encode.j1 k x7 x8 (Go.bits .or .u32 x143002 t150) x135000 x135001 x135002 x135003 x135004 x143000 x143001 x143002 x143003 x143004 x143005))) else (some (0, 152))))
def ravelinref15_Encode.j1 : Nat → Bool → Bool → Int → Int → Int → Int → Int → Int → Int → Int → Int → Int → Int → ByteArray → Option (Int × Int)
  | 0, _, _, _, _, _, _, _, _, _, _, _, _, _, _ => none
  | k + 1, x7, x8, x13, x135000, x135001, x135002, x135003, x135004, x143000, x143001, x143002, x143003, x143004, x143005 => if x7 = true then (ravelinref15_Encode.j2 k x8 (Go.bits .or .u32 x13 ((((x135002) % 4294967296) * 32768) % 4294967296)) x135000 x135001 x135002 x135003 x135004 x143000 x143001 x143002 x143003 x143004 x143005) else (ravelinref15_Encode.j2 k x8 x13 x135000 x135001 x135002 x135003 x135004 x143000 x143001 x143002 x143003 x143004 x143005)
def ravelinref15_Encode.j2 : Nat → Bool → Int → Int → Int → Int → Int → Int → Int → Int → Int → Int → Int → ByteArray → Option (Int × Int)
  | 0, _, _, _, _, _, _, _, _, _, _, _, _, _ => none
  | k + 1, x8, x13, x135000, x135001, x135002, x135003, x135004, x143000, x143001, x143002, x143003, x143004, x143005 => if x8 = true then (ravelinref15_Encode.j3 k (Go.bits .or .u32 x13 ((((x135003) % 4294967296) * 1048576) % 4294967296)) x143000 x143001 x143002 x143003 x143004 x143005) else (ravelinref15_Encode.j3 k x13 x143000 x143001 x143002 x143003 x143004 x143005)
def ravelinref15_Encode.j3 : Nat → Int → Int → Int → Int → Int → Int → ByteArray → Option (Int × Int)
  | 0, _, _, _, _, _, _, _ => none
  | k + 1, x13, x143000, x143001, x143002, x143003, x143004, x143005 => if x143001 = 1 then (ravelinref15_Encode.j4 k x13 false x143000 x143001 x143002 x143003 x143004 x143005) else (ravelinref15_Encode.j4 k x13 (x143001 != 8) x143000 x143001 x143002 x143003 x143004 x143005)
def ravelinref15_Encode.j4 : Nat → Int → Bool → Int → Int → Int → Int → Int → ByteArray → Option (Int × Int)
  | 0, _, _, _, _, _, _, _, _ => none
  | k + 1, x13, x94, x143000, x143001, x143002, x143003, x143004, x143005 => if x94 = true then (if x143001 = 6 then (some (Go.bits .or .u32 (Go.bits .or .u32 x13 ((x143003 * 4096) % 4294967296)) ((x143004 * 33554432) % 4294967296), 0)) else (some (Go.bits .or .u32 x13 ((x143003 * 4096) % 4294967296), 0))) else (if x143001 = 6 then (some (Go.bits .or .u32 x13 ((x143004 * 33554432) % 4294967296), 0)) else (some (x13, 0)))
end
def ravelinref15_Encode.f (k : Nat) (a0_0 : Int) (a0_1 : Int) (a0_2 : Int) (a0_3 : Int) (a0_4 : Int) : Option (Int × Int) := (ravelinref15_Find.f k a0_0).bind fun bt135 => (if bt135.2.2.2.2.2.2 = true then ((ravelinref15_Named.f k bt135.2.1).bind fun bt143 => ((ravelinref15_reg.f a0_1 bt143.1).bind fun t146 => ((ravelinref15_reg.f a0_2 bt143.2.1).bind fun t147 => ((ravelinref15_reg.f a0_3 bt143.2.2).bind fun t148 => (if t146 = true then (if t147 = true then (ravelinref15_Encode.j0 k bt143.1 bt143.2.1 bt143.2.2 (!t148) a0_0 a0_1 a0_2 a0_3 a0_4 bt135.1 bt135.2.1 bt135.2.2.1 bt135.2.2.2.1 bt135.2.2.2.2.1 bt135.2.2.2.2.2.1) else (ravelinref15_Encode.j0 k bt143.1 bt143.2.1 bt143.2.2 true a0_0 a0_1 a0_2 a0_3 a0_4 bt135.1 bt135.2.1 bt135.2.2.1 bt135.2.2.2.1 bt135.2.2.2.2.1 bt135.2.2.2.2.2.1)) else (ravelinref15_Encode.j0 k bt143.1 bt143.2.1 bt143.2.2 true a0_0 a0_1 a0_2 a0_3 a0_4 bt135.1 bt135.2.1 bt135.2.2.1 bt135.2.2.2.1 bt135.2.2.2.2.1 bt135.2.2.2.2.2.1)))))) else (some (0, 153)))
set_option maxHeartbeats 8000000 in
set_option maxRecDepth 100000 in
theorem ravelinref15_Encode.calls (k : Nat) (a0_0 : Int) (a0_1 : Int) (a0_2 : Int) (a0_3 : Int) (a0_4 : Int) (r1 : Int) (r2 : Int) (w : World) (h : ravelinref15_Encode.f k a0_0 a0_1 a0_2 a0_3 a0_4 = some (r1, r2)) :
    Calls Tryz.prog 17 #[.agg #[.int .i64 a0_0, .int .i64 a0_1, .int .i64 a0_2, .int .i64 a0_3, .int .i64 a0_4]] w fun e w' => e = .returned (.tuple #[.int .u32 r1, .int .i64 r2]) ∧ Below w.heap.size w w' := by
  have hu42 := Tryz.underlying42
  have hu59 := Tryz.underlying59
  have HB := Aside0.mk (Below.refl w.heap.size w)
  have H : ((ravelinref15_Find.f k a0_0).bind fun bt135 => (if bt135.2.2.2.2.2.2 = true then ((ravelinref15_Named.f k bt135.2.1).bind fun bt143 => ((ravelinref15_reg.f a0_1 bt143.1).bind fun t146 => ((ravelinref15_reg.f a0_2 bt143.2.1).bind fun t147 => ((ravelinref15_reg.f a0_3 bt143.2.2).bind fun t148 => (if t146 = true then (if t147 = true then (ravelinref15_Encode.j0 k bt143.1 bt143.2.1 bt143.2.2 (!t148) a0_0 a0_1 a0_2 a0_3 a0_4 bt135.1 bt135.2.1 bt135.2.2.1 bt135.2.2.2.1 bt135.2.2.2.2.1 bt135.2.2.2.2.2.1) else (ravelinref15_Encode.j0 k bt143.1 bt143.2.1 bt143.2.2 true a0_0 a0_1 a0_2 a0_3 a0_4 bt135.1 bt135.2.1 bt135.2.2.1 bt135.2.2.2.1 bt135.2.2.2.2.1 bt135.2.2.2.2.2.1)) else (ravelinref15_Encode.j0 k bt143.1 bt143.2.1 bt143.2.2 true a0_0 a0_1 a0_2 a0_3 a0_4 bt135.1 bt135.2.1 bt135.2.2.1 bt135.2.2.2.1 bt135.2.2.2.2.1 bt135.2.2.2.2.2.1)))))) else (some (0, 153)))) = some (r1, r2) := h
  clear h
  replace H := Option.bind_eq_some_iff.mp H
  obtain ⟨⟨t135, t136, t137, t138, t139, t140, t141⟩, A20, H⟩ := H
  replace H : (if t141 = true then ((ravelinref15_Named.f k t136).bind fun bt143 => ((ravelinref15_reg.f a0_1 bt143.1).bind fun t146 => ((ravelinref15_reg.f a0_2 bt143.2.1).bind fun t147 => ((ravelinref15_reg.f a0_3 bt143.2.2).bind fun t148 => (if t146 = true then (if t147 = true then (ravelinref15_Encode.j0 k bt143.1 bt143.2.1 bt143.2.2 (!t148) a0_0 a0_1 a0_2 a0_3 a0_4 t135 t136 t137 t138 t139 t140) else (ravelinref15_Encode.j0 k bt143.1 bt143.2.1 bt143.2.2 true a0_0 a0_1 a0_2 a0_3 a0_4 t135 t136 t137 t138 t139 t140)) else (ravelinref15_Encode.j0 k bt143.1 bt143.2.1 bt143.2.2 true a0_0 a0_1 a0_2 a0_3 a0_4 t135 t136 t137 t138 t139 t140)))))) else (some (0, 153))) = some (r1, r2) := H
  have A2 := Aside0.mk A20
  clear A20
  by_cases c3 : t141 = true
  · subst c3
    have H1 : ((ravelinref15_Named.f k t136).bind fun bt143 => ((ravelinref15_reg.f a0_1 bt143.1).bind fun t146 => ((ravelinref15_reg.f a0_2 bt143.2.1).bind fun t147 => ((ravelinref15_reg.f a0_3 bt143.2.2).bind fun t148 => (if t146 = true then (if t147 = true then (ravelinref15_Encode.j0 k bt143.1 bt143.2.1 bt143.2.2 (!t148) a0_0 a0_1 a0_2 a0_3 a0_4 t135 t136 t137 t138 t139 t140) else (ravelinref15_Encode.j0 k bt143.1 bt143.2.1 bt143.2.2 true a0_0 a0_1 a0_2 a0_3 a0_4 t135 t136 t137 t138 t139 t140)) else (ravelinref15_Encode.j0 k bt143.1 bt143.2.1 bt143.2.2 true a0_0 a0_1 a0_2 a0_3 a0_4 t135 t136 t137 t138 t139 t140)))))) = some (r1, r2) := by rw [if_pos rfl] at H; exact H
    clear H
    have H := H1
    clear H1
    replace H := Option.bind_eq_some_iff.mp H
    obtain ⟨⟨t143, t144, t145⟩, A40, H⟩ := H
    replace H : ((ravelinref15_reg.f a0_1 t143).bind fun t146 => ((ravelinref15_reg.f a0_2 t144).bind fun t147 => ((ravelinref15_reg.f a0_3 t145).bind fun t148 => (if t146 = true then (if t147 = true then (ravelinref15_Encode.j0 k t143 t144 t145 (!t148) a0_0 a0_1 a0_2 a0_3 a0_4 t135 t136 t137 t138 t139 t140) else (ravelinref15_Encode.j0 k t143 t144 t145 true a0_0 a0_1 a0_2 a0_3 a0_4 t135 t136 t137 t138 t139 t140)) else (ravelinref15_Encode.j0 k t143 t144 t145 true a0_0 a0_1 a0_2 a0_3 a0_4 t135 t136 t137 t138 t139 t140))))) = some (r1, r2) := H
    have A4 := Aside0.mk A40
    clear A40
    replace H := Option.bind_eq_some_iff.mp H
    obtain ⟨t146, A50, H⟩ := H
    replace H : ((ravelinref15_reg.f a0_2 t144).bind fun t147 => ((ravelinref15_reg.f a0_3 t145).bind fun t148 => (if t146 = true then (if t147 = true then (ravelinref15_Encode.j0 k t143 t144 t145 (!t148) a0_0 a0_1 a0_2 a0_3 a0_4 t135 t136 t137 t138 t139 t140) else (ravelinref15_Encode.j0 k t143 t144 t145 true a0_0 a0_1 a0_2 a0_3 a0_4 t135 t136 t137 t138 t139 t140)) else (ravelinref15_Encode.j0 k t143 t144 t145 true a0_0 a0_1 a0_2 a0_3 a0_4 t135 t136 t137 t138 t139 t140)))) = some (r1, r2) := H
    have A5 := Aside0.mk A50
    clear A50
    replace H := Option.bind_eq_some_iff.mp H
    obtain ⟨t147, A60, H⟩ := H
    replace H : ((ravelinref15_reg.f a0_3 t145).bind fun t148 => (if t146 = true then (if t147 = true then (ravelinref15_Encode.j0 k t143 t144 t145 (!t148) a0_0 a0_1 a0_2 a0_3 a0_4 t135 t136 t137 t138 t139 t140) else (ravelinref15_Encode.j0 k t143 t144 t145 true a0_0 a0_1 a0_2 a0_3 a0_4 t135 t136 t137 t138 t139 t140)) else (ravelinref15_Encode.j0 k t143 t144 t145 true a0_0 a0_1 a0_2 a0_3 a0_4 t135 t136 t137 t138 t139 t140))) = some (r1, r2) := H
    have A6 := Aside0.mk A60
    clear A60
    replace H := Option.bind_eq_some_iff.mp H
    obtain ⟨t148, A70, H⟩ := H
    replace H : (if t146 = true then (if t147 = true then (ravelinref15_Encode.j0 k t143 t144 t145 (!t148) a0_0 a0_1 a0_2 a0_3 a0_4 t135 t136 t137 t138 t139 t140) else (ravelinref15_Encode.j0 k t143 t144 t145 true a0_0 a0_1 a0_2 a0_3 a0_4 t135 t136 t137 t138 t139 t140)) else (ravelinref15_Encode.j0 k t143 t144 t145 true a0_0 a0_1 a0_2 a0_3 a0_4 t135 t136 t137 t138 t139 t140)) = some (r1, r2) := H
    have A7 := Aside0.mk A70
    clear A70
    have HC8 := Aside0.mk H
    clear H
    go_enter Tryz.func17, Tryz.ntmps17
    go_upto_region 8 with (first | ((with_reducible refine gate_dst (N := 1) rfl ?_); refine box_event ?hg (N := 1) ?hd (cs := #[.int .i64 a0_0, .int .i64 a0_1, .int .i64 a0_2, .int .i64 a0_3, .int .i64 a0_4]) (t := 42) ?hr ?_; (case hd => rfl); (case hg => rfl); (case hr => first | (go_simp; done) | (go_simp; rfl)); intro gb134 hg w9 hbox hb; have n0_ := Aside0.mk (below_step (by repeat (first | (with_reducible first | exact HB.out | apply below_alloc | apply pw_below_drewN | apply below_drew1) | exact HB.out)) hb); have n1_ := Aside0.mk (hbox); have n2_ := Aside0.mk ((by rw [hg]; exact (below_size (by repeat (first | (with_reducible first | exact HB.out | apply below_alloc | apply pw_below_drewN | apply below_drew1) | exact HB.out))) : w.heap.size ≤ gb134)); have n3_ := Aside0.mk ((by rw [hg]; exact (below_size (by repeat (first | (with_reducible first | exact HB.out | apply below_alloc | apply pw_below_drewN | apply below_drew1) | exact HB.out))) : w.heap.size ≤ gb134)); clear HB; have HB := n0_; have BK134 := n1_; have GW134 := n2_; have GE134 := n3_; clear n0_ n1_ n2_ n3_; clear hb hbox hg; have hcz10_0 : w9.cell? ⟨gb134, 0, none⟩ = some (.int .i64 a0_0) := (blk_cell BK134.out 0).trans rfl; have hcz10_1 : w9.cell? ⟨gb134, 1, none⟩ = some (.int .i64 a0_1) := (blk_cell BK134.out 1).trans rfl; have hcz10_2 : w9.cell? ⟨gb134, 2, none⟩ = some (.int .i64 a0_2) := (blk_cell BK134.out 2).trans rfl; have hcz10_3 : w9.cell? ⟨gb134, 3, none⟩ = some (.int .i64 a0_3) := (blk_cell BK134.out 3).trans rfl; have hcz10_4 : w9.cell? ⟨gb134, 4, none⟩ = some (.int .i64 a0_4) := (blk_cell BK134.out 4).trans rfl; have hfz10_0 := blk_frozen BK134.out 0; have hfz10_1 := blk_frozen BK134.out 1; have hfz10_2 := blk_frozen BK134.out 2; have hfz10_3 := blk_frozen BK134.out 3; have hfz10_4 := blk_frozen BK134.out 4) | (go_at_call 28; (with_reducible refine (ravelinref15_Find.calls k a0_0 t135 t136 t137 t138 t139 t140 true _ A2.out).mono ?_); rintro e w11 ⟨rfl, hb⟩; have n0_ := Aside0.mk (blk_below (g := gb134) (o := .cells #[.int .i64 a0_0, .int .i64 a0_1, .int .i64 a0_2, .int .i64 a0_3, .int .i64 a0_4] 42 (0, 0)) (by (with_reducible repeat (first | refine blk_drewN ?_ _ | refine blk_drew ?_ | refine blk_alloc ?_ _)); exact BK134.out) hb); have n1_ := Aside0.mk (below_step (by repeat (first | (with_reducible first | exact HB.out | apply below_alloc | apply pw_below_drewN | apply below_drew1 | refine below_set ?_ GE134.out) | exact HB.out)) hb); clear BK134; clear HB; have BK134 := n0_; have HB := n1_; clear n0_ n1_; (try clear hb); (try clear hb2); (try clear hk); (try clear hi)) | ((with_reducible refine gate_dst (N := 4) rfl ?_); refine box_event ?hg (N := 4) ?hd (cs := #[.int .i64 0, .int .i64 0, .int .u32 0, .int .u32 0, .int .u32 0, .string (⟨#[]⟩ : ByteArray)]) (t := 59) ?hr ?_; (case hd => rfl); (case hg => rfl); (case hr => first | (go_simp; done) | (go_simp; rfl)); intro gb142 hg w12 hbox hb; have n0_ := Aside0.mk (blk_below (g := gb134) (o := .cells #[.int .i64 a0_0, .int .i64 a0_1, .int .i64 a0_2, .int .i64 a0_3, .int .i64 a0_4] 42 (0, 0)) (by (with_reducible repeat (first | refine blk_drewN ?_ _ | refine blk_drew ?_ | refine blk_alloc ?_ _)); exact BK134.out) hb); have n1_ := Aside0.mk (below_step (by repeat (first | (with_reducible first | exact HB.out | apply below_alloc | apply pw_below_drewN | apply below_drew1 | refine below_set ?_ GE134.out) | exact HB.out)) hb); have n2_ := Aside0.mk (hbox); have n3_ := Aside0.mk ((by rw [hg]; exact (below_size (by repeat (first | (with_reducible first | exact HB.out | apply below_alloc | apply pw_below_drewN | apply below_drew1 | refine below_set ?_ GE134.out) | exact HB.out))) : w.heap.size ≤ gb142)); have n4_ := Aside0.mk ((by rw [hg]; exact (below_size (by repeat (first | (with_reducible first | exact HB.out | apply below_alloc | apply pw_below_drewN | apply below_drew1 | refine below_set ?_ GE134.out) | exact HB.out))) : w.heap.size ≤ gb142)); have n5_ := Aside0.mk ((by rw [hg]; exact Nat.ne_of_lt (blk_lt (g := gb134) (o := .cells #[.int .i64 a0_0, .int .i64 a0_1, .int .i64 a0_2, .int .i64 a0_3, .int .i64 a0_4] 42 (0, 0)) (by (with_reducible repeat (first | refine blk_drewN ?_ _ | refine blk_drew ?_ | refine blk_alloc ?_ _)); exact BK134.out)) : gb134 ≠ gb142)); have n6_ := Aside0.mk ((by rw [hg]; exact Nat.ne_of_gt (blk_lt (g := gb134) (o := .cells #[.int .i64 a0_0, .int .i64 a0_1, .int .i64 a0_2, .int .i64 a0_3, .int .i64 a0_4] 42 (0, 0)) (by (with_reducible repeat (first | refine blk_drewN ?_ _ | refine blk_drew ?_ | refine blk_alloc ?_ _)); exact BK134.out)) : gb142 ≠ gb134)); clear BK134; clear HB; have BK134 := n0_; have HB := n1_; have BK142 := n2_; have GW142 := n3_; have GE142 := n4_; have NB134_142 := n5_; have NB142_134 := n6_; clear n0_ n1_ n2_ n3_ n4_ n5_ n6_; clear hb hbox hg; have hnb13 := NB142_134.out; have hnc13 := NB134_142.out; have hcz14_0 : w12.cell? ⟨gb142, 0, none⟩ = some (.int .i64 0) := (blk_cell BK142.out 0).trans rfl; have hcz14_1 : w12.cell? ⟨gb142, 1, none⟩ = some (.int .i64 0) := (blk_cell BK142.out 1).trans rfl; have hcz14_2 : w12.cell? ⟨gb142, 2, none⟩ = some (.int .u32 0) := (blk_cell BK142.out 2).trans rfl; have hcz14_3 : w12.cell? ⟨gb142, 3, none⟩ = some (.int .u32 0) := (blk_cell BK142.out 3).trans rfl; have hcz14_4 : w12.cell? ⟨gb142, 4, none⟩ = some (.int .u32 0) := (blk_cell BK142.out 4).trans rfl; have hcz14_5 : w12.cell? ⟨gb142, 5, none⟩ = some (.string (⟨#[]⟩ : ByteArray)) := (blk_cell BK142.out 5).trans rfl; have hfz14_0 := blk_frozen BK142.out 0; have hfz14_1 := blk_frozen BK142.out 1; have hfz14_2 := blk_frozen BK142.out 2; have hfz14_3 := blk_frozen BK142.out 3; have hfz14_4 := blk_frozen BK142.out 4; have hfz14_5 := blk_frozen BK142.out 5) | (go_at_call 29; (with_reducible refine (ravelinref15_Named.calls k t136 t143 t144 t145 _ A4.out).mono ?_); rintro e w' ⟨rfl, ⟨nd, rfl⟩⟩; (try first | exact ⟨rfl, _, World.drewN_drewN _ _ _⟩ | exact ⟨rfl, _, Eq.trans (World.drewN_drewN _ _ _) (congrArg (World.drewN _) (Nat.add_assoc _ _ _))⟩); have hcz15_0 : w12.cell? ⟨gb134, 0, none⟩ = some (.int .i64 a0_0) := (blk_cell BK134.out 0).trans rfl; have hcz15_1 : w12.cell? ⟨gb134, 1, none⟩ = some (.int .i64 a0_1) := (blk_cell BK134.out 1).trans rfl; have hcz15_2 : w12.cell? ⟨gb134, 2, none⟩ = some (.int .i64 a0_2) := (blk_cell BK134.out 2).trans rfl; have hcz15_3 : w12.cell? ⟨gb134, 3, none⟩ = some (.int .i64 a0_3) := (blk_cell BK134.out 3).trans rfl; have hcz15_4 : w12.cell? ⟨gb134, 4, none⟩ = some (.int .i64 a0_4) := (blk_cell BK134.out 4).trans rfl; have hfz15_0 := blk_frozen BK134.out 0; have hfz15_1 := blk_frozen BK134.out 1; have hfz15_2 := blk_frozen BK134.out 2; have hfz15_3 := blk_frozen BK134.out 3; have hfz15_4 := blk_frozen BK134.out 4) | (go_at_call 30; (with_reducible refine (ravelinref15_reg.calls a0_1 t143 t146 _ A5.out).mono ?_); rintro e w' ⟨rfl, ⟨nd, rfl⟩⟩; (try first | exact ⟨rfl, _, World.drewN_drewN _ _ _⟩ | exact ⟨rfl, _, Eq.trans (World.drewN_drewN _ _ _) (congrArg (World.drewN _) (Nat.add_assoc _ _ _))⟩)) | (go_at_call 30; (with_reducible refine (ravelinref15_reg.calls a0_2 t144 t147 _ A6.out).mono ?_); rintro e w' ⟨rfl, ⟨nd, rfl⟩⟩; (try first | exact ⟨rfl, _, World.drewN_drewN _ _ _⟩ | exact ⟨rfl, _, Eq.trans (World.drewN_drewN _ _ _) (congrArg (World.drewN _) (Nat.add_assoc _ _ _))⟩)) | (go_at_call 30; (with_reducible refine (ravelinref15_reg.calls a0_3 t145 t148 _ A7.out).mono ?_); rintro e w' ⟨rfl, ⟨nd, rfl⟩⟩; (try first | exact ⟨rfl, _, World.drewN_drewN _ _ _⟩ | exact ⟨rfl, _, Eq.trans (World.drewN_drewN _ _ _) (congrArg (World.drewN _) (Nat.add_assoc _ _ _))⟩)))
    repeat (go_quiet (first | (go_at_call 30; (with_reducible refine (ravelinref15_reg.calls a0_1 t143 t146 _ A5.out).mono ?_); rintro e w' ⟨rfl, ⟨nd, rfl⟩⟩; (try first | exact ⟨rfl, _, World.drewN_drewN _ _ _⟩ | exact ⟨rfl, _, Eq.trans (World.drewN_drewN _ _ _) (congrArg (World.drewN _) (Nat.add_assoc _ _ _))⟩)) | (go_at_call 30; (with_reducible refine (ravelinref15_reg.calls a0_2 t144 t147 _ A6.out).mono ?_); rintro e w' ⟨rfl, ⟨nd, rfl⟩⟩; (try first | exact ⟨rfl, _, World.drewN_drewN _ _ _⟩ | exact ⟨rfl, _, Eq.trans (World.drewN_drewN _ _ _) (congrArg (World.drewN _) (Nat.add_assoc _ _ _))⟩)) | (go_at_call 30; (with_reducible refine (ravelinref15_reg.calls a0_3 t145 t148 _ A7.out).mono ?_); rintro e w' ⟨rfl, ⟨nd, rfl⟩⟩; (try first | exact ⟨rfl, _, World.drewN_drewN _ _ _⟩ | exact ⟨rfl, _, Eq.trans (World.drewN_drewN _ _ _) (congrArg (World.drewN _) (Nat.add_assoc _ _ _))⟩))); try go_wp2_with (first | (go_at_call 30; (with_reducible refine (ravelinref15_reg.calls a0_1 t143 t146 _ A5.out).mono ?_); rintro e w' ⟨rfl, ⟨nd, rfl⟩⟩; (try first | exact ⟨rfl, _, World.drewN_drewN _ _ _⟩ | exact ⟨rfl, _, Eq.trans (World.drewN_drewN _ _ _) (congrArg (World.drewN _) (Nat.add_assoc _ _ _))⟩)) | (go_at_call 30; (with_reducible refine (ravelinref15_reg.calls a0_2 t144 t147 _ A6.out).mono ?_); rintro e w' ⟨rfl, ⟨nd, rfl⟩⟩; (try first | exact ⟨rfl, _, World.drewN_drewN _ _ _⟩ | exact ⟨rfl, _, Eq.trans (World.drewN_drewN _ _ _) (congrArg (World.drewN _) (Nat.add_assoc _ _ _))⟩)) | (go_at_call 30; (with_reducible refine (ravelinref15_reg.calls a0_3 t145 t148 _ A7.out).mono ?_); rintro e w' ⟨rfl, ⟨nd, rfl⟩⟩; (try first | exact ⟨rfl, _, World.drewN_drewN _ _ _⟩ | exact ⟨rfl, _, Eq.trans (World.drewN_drewN _ _ _) (congrArg (World.drewN _) (Nat.add_assoc _ _ _))⟩))))
    (try simp only [Act.put, List.setIfInBounds_toArray, List.set])
    go_cut [50] (fun v50 wc => ∃ (kq : Nat) (x50_7 : Bool), v50 = .bool x50_7 ∧ Aside0 (ravelinref15_Encode.j0 kq t143 t144 t145 x50_7 a0_0 a0_1 a0_2 a0_3 a0_4 t135 t136 t137 t138 t139 t140 = some (r1, r2)) ∧ Aside0 (kq ≤ k) ∧ Aside0 (wc.heap[gb134]? = some (.cells #[.int .i64 a0_0, .int .i64 a0_1, .int .i64 a0_2, .int .i64 a0_3, .int .i64 a0_4] 42 (0, 0))) ∧ Aside0 (wc.heap[gb142]? = some (.cells #[.int .i64 t135, .int .i64 t136, .int .u32 t137, .int .u32 t138, .int .u32 t139, .string t140] 59 (0, 0))) ∧ Aside0 (Below w.heap.size w wc))
    case first =>
      have H := HC8.out
      clear HC8
      by_cases c16 : t146 = true
      · subst c16
        have H1 : (if t147 = true then (ravelinref15_Encode.j0 k t143 t144 t145 (!t148) a0_0 a0_1 a0_2 a0_3 a0_4 t135 t136 t137 t138 t139 t140) else (ravelinref15_Encode.j0 k t143 t144 t145 true a0_0 a0_1 a0_2 a0_3 a0_4 t135 t136 t137 t138 t139 t140)) = some (r1, r2) := by rw [if_pos rfl] at H; exact H
        clear H
        have H := H1
        clear H1
        by_cases c17 : t147 = true
        · subst c17
          have H1 : (ravelinref15_Encode.j0 k t143 t144 t145 (!t148) a0_0 a0_1 a0_2 a0_3 a0_4 t135 t136 t137 t138 t139 t140) = some (r1, r2) := by rw [if_pos rfl] at H; exact H
          clear H
          have H := H1
          clear H1
          have H' := Aside0.mk H
          clear H
          go_wp2
          repeat (go_quiet (fail); try go_wp2)
          go_meet
          case rel => exact ⟨_, (!t148), (by first | rfl | (simp; done) | (simp [*]; done)), H', ⟨by first | omega | exact Nat.le_refl _⟩, ⟨by (with_reducible repeat (first | refine blk_drewN ?_ _ | refine blk_drew ?_ | refine blk_alloc ?_ _)); refine blk_far ?_ NB134_142.out _; (with_reducible repeat (first | refine blk_drewN ?_ _ | refine blk_drew ?_ | refine blk_alloc ?_ _)); refine blk_far ?_ NB134_142.out _; (with_reducible repeat (first | refine blk_drewN ?_ _ | refine blk_drew ?_ | refine blk_alloc ?_ _)); refine blk_far ?_ NB134_142.out _; (with_reducible repeat (first | refine blk_drewN ?_ _ | refine blk_drew ?_ | refine blk_alloc ?_ _)); refine blk_far ?_ NB134_142.out _; (with_reducible repeat (first | refine blk_drewN ?_ _ | refine blk_drew ?_ | refine blk_alloc ?_ _)); refine blk_far ?_ NB134_142.out _; (with_reducible repeat (first | refine blk_drewN ?_ _ | refine blk_drew ?_ | refine blk_alloc ?_ _)); refine blk_far ?_ NB134_142.out _; (with_reducible repeat (first | refine blk_drewN ?_ _ | refine blk_drew ?_ | refine blk_alloc ?_ _)); exact BK134.out⟩, ⟨by (with_reducible repeat (first | refine blk_drewN ?_ _ | refine blk_drew ?_ | refine blk_alloc ?_ _)); refine blk_put (cs := #[.int .i64 t135, .int .i64 t136, .int .u32 t137, .int .u32 t138, .int .u32 t139, .string (⟨#[]⟩ : ByteArray)]) ?_ 5 _ rfl; (with_reducible repeat (first | refine blk_drewN ?_ _ | refine blk_drew ?_ | refine blk_alloc ?_ _)); refine blk_put (cs := #[.int .i64 t135, .int .i64 t136, .int .u32 t137, .int .u32 t138, .int .u32 0, .string (⟨#[]⟩ : ByteArray)]) ?_ 4 _ rfl; (with_reducible repeat (first | refine blk_drewN ?_ _ | refine blk_drew ?_ | refine blk_alloc ?_ _)); refine blk_put (cs := #[.int .i64 t135, .int .i64 t136, .int .u32 t137, .int .u32 0, .int .u32 0, .string (⟨#[]⟩ : ByteArray)]) ?_ 3 _ rfl; (with_reducible repeat (first | refine blk_drewN ?_ _ | refine blk_drew ?_ | refine blk_alloc ?_ _)); refine blk_put (cs := #[.int .i64 t135, .int .i64 t136, .int .u32 0, .int .u32 0, .int .u32 0, .string (⟨#[]⟩ : ByteArray)]) ?_ 2 _ rfl; (with_reducible repeat (first | refine blk_drewN ?_ _ | refine blk_drew ?_ | refine blk_alloc ?_ _)); refine blk_put (cs := #[.int .i64 t135, .int .i64 0, .int .u32 0, .int .u32 0, .int .u32 0, .string (⟨#[]⟩ : ByteArray)]) ?_ 1 _ rfl; (with_reducible repeat (first | refine blk_drewN ?_ _ | refine blk_drew ?_ | refine blk_alloc ?_ _)); refine blk_put (cs := #[.int .i64 0, .int .i64 0, .int .u32 0, .int .u32 0, .int .u32 0, .string (⟨#[]⟩ : ByteArray)]) ?_ 0 _ rfl; (with_reducible repeat (first | refine blk_drewN ?_ _ | refine blk_drew ?_ | refine blk_alloc ?_ _)); exact BK142.out⟩, ⟨by repeat (first | (with_reducible first | exact HB.out | apply below_alloc | apply pw_below_drewN | apply below_drew1 | refine below_set ?_ GE134.out | refine below_set ?_ GE142.out) | exact HB.out)⟩⟩
        · replace c17 := Bool.eq_false_iff.mpr c17
          subst c17
          have H1 : (ravelinref15_Encode.j0 k t143 t144 t145 true a0_0 a0_1 a0_2 a0_3 a0_4 t135 t136 t137 t138 t139 t140) = some (r1, r2) := by rw [if_neg (show ¬ (false = true) by decide)] at H; exact H
          clear H
          have H := H1
          clear H1
          have H' := Aside0.mk H
          clear H
          go_wp2
          repeat (go_quiet (fail); try go_wp2)
          go_meet
          case rel => exact ⟨_, (true), (by first | rfl | (simp; done) | (simp [*]; done)), H', ⟨by first | omega | exact Nat.le_refl _⟩, ⟨by (with_reducible repeat (first | refine blk_drewN ?_ _ | refine blk_drew ?_ | refine blk_alloc ?_ _)); refine blk_far ?_ NB134_142.out _; (with_reducible repeat (first | refine blk_drewN ?_ _ | refine blk_drew ?_ | refine blk_alloc ?_ _)); refine blk_far ?_ NB134_142.out _; (with_reducible repeat (first | refine blk_drewN ?_ _ | refine blk_drew ?_ | refine blk_alloc ?_ _)); refine blk_far ?_ NB134_142.out _; (with_reducible repeat (first | refine blk_drewN ?_ _ | refine blk_drew ?_ | refine blk_alloc ?_ _)); refine blk_far ?_ NB134_142.out _; (with_reducible repeat (first | refine blk_drewN ?_ _ | refine blk_drew ?_ | refine blk_alloc ?_ _)); refine blk_far ?_ NB134_142.out _; (with_reducible repeat (first | refine blk_drewN ?_ _ | refine blk_drew ?_ | refine blk_alloc ?_ _)); refine blk_far ?_ NB134_142.out _; (with_reducible repeat (first | refine blk_drewN ?_ _ | refine blk_drew ?_ | refine blk_alloc ?_ _)); exact BK134.out⟩, ⟨by (with_reducible repeat (first | refine blk_drewN ?_ _ | refine blk_drew ?_ | refine blk_alloc ?_ _)); refine blk_put (cs := #[.int .i64 t135, .int .i64 t136, .int .u32 t137, .int .u32 t138, .int .u32 t139, .string (⟨#[]⟩ : ByteArray)]) ?_ 5 _ rfl; (with_reducible repeat (first | refine blk_drewN ?_ _ | refine blk_drew ?_ | refine blk_alloc ?_ _)); refine blk_put (cs := #[.int .i64 t135, .int .i64 t136, .int .u32 t137, .int .u32 t138, .int .u32 0, .string (⟨#[]⟩ : ByteArray)]) ?_ 4 _ rfl; (with_reducible repeat (first | refine blk_drewN ?_ _ | refine blk_drew ?_ | refine blk_alloc ?_ _)); refine blk_put (cs := #[.int .i64 t135, .int .i64 t136, .int .u32 t137, .int .u32 0, .int .u32 0, .string (⟨#[]⟩ : ByteArray)]) ?_ 3 _ rfl; (with_reducible repeat (first | refine blk_drewN ?_ _ | refine blk_drew ?_ | refine blk_alloc ?_ _)); refine blk_put (cs := #[.int .i64 t135, .int .i64 t136, .int .u32 0, .int .u32 0, .int .u32 0, .string (⟨#[]⟩ : ByteArray)]) ?_ 2 _ rfl; (with_reducible repeat (first | refine blk_drewN ?_ _ | refine blk_drew ?_ | refine blk_alloc ?_ _)); refine blk_put (cs := #[.int .i64 t135, .int .i64 0, .int .u32 0, .int .u32 0, .int .u32 0, .string (⟨#[]⟩ : ByteArray)]) ?_ 1 _ rfl; (with_reducible repeat (first | refine blk_drewN ?_ _ | refine blk_drew ?_ | refine blk_alloc ?_ _)); refine blk_put (cs := #[.int .i64 0, .int .i64 0, .int .u32 0, .int .u32 0, .int .u32 0, .string (⟨#[]⟩ : ByteArray)]) ?_ 0 _ rfl; (with_reducible repeat (first | refine blk_drewN ?_ _ | refine blk_drew ?_ | refine blk_alloc ?_ _)); exact BK142.out⟩, ⟨by repeat (first | (with_reducible first | exact HB.out | apply below_alloc | apply pw_below_drewN | apply below_drew1 | refine below_set ?_ GE134.out | refine below_set ?_ GE142.out) | exact HB.out)⟩⟩
      · replace c16 := Bool.eq_false_iff.mpr c16
        subst c16
        have H1 : (ravelinref15_Encode.j0 k t143 t144 t145 true a0_0 a0_1 a0_2 a0_3 a0_4 t135 t136 t137 t138 t139 t140) = some (r1, r2) := by rw [if_neg (show ¬ (false = true) by decide)] at H; exact H
        clear H
        have H := H1
        clear H1
        have H' := Aside0.mk H
        clear H
        go_wp2
        repeat (go_quiet (fail); try go_wp2)
        go_meet
        case rel => exact ⟨_, (true), (by first | rfl | (simp; done) | (simp [*]; done)), H', ⟨by first | omega | exact Nat.le_refl _⟩, ⟨by (with_reducible repeat (first | refine blk_drewN ?_ _ | refine blk_drew ?_ | refine blk_alloc ?_ _)); refine blk_far ?_ NB134_142.out _; (with_reducible repeat (first | refine blk_drewN ?_ _ | refine blk_drew ?_ | refine blk_alloc ?_ _)); refine blk_far ?_ NB134_142.out _; (with_reducible repeat (first | refine blk_drewN ?_ _ | refine blk_drew ?_ | refine blk_alloc ?_ _)); refine blk_far ?_ NB134_142.out _; (with_reducible repeat (first | refine blk_drewN ?_ _ | refine blk_drew ?_ | refine blk_alloc ?_ _)); refine blk_far ?_ NB134_142.out _; (with_reducible repeat (first | refine blk_drewN ?_ _ | refine blk_drew ?_ | refine blk_alloc ?_ _)); refine blk_far ?_ NB134_142.out _; (with_reducible repeat (first | refine blk_drewN ?_ _ | refine blk_drew ?_ | refine blk_alloc ?_ _)); refine blk_far ?_ NB134_142.out _; (with_reducible repeat (first | refine blk_drewN ?_ _ | refine blk_drew ?_ | refine blk_alloc ?_ _)); exact BK134.out⟩, ⟨by (with_reducible repeat (first | refine blk_drewN ?_ _ | refine blk_drew ?_ | refine blk_alloc ?_ _)); refine blk_put (cs := #[.int .i64 t135, .int .i64 t136, .int .u32 t137, .int .u32 t138, .int .u32 t139, .string (⟨#[]⟩ : ByteArray)]) ?_ 5 _ rfl; (with_reducible repeat (first | refine blk_drewN ?_ _ | refine blk_drew ?_ | refine blk_alloc ?_ _)); refine blk_put (cs := #[.int .i64 t135, .int .i64 t136, .int .u32 t137, .int .u32 t138, .int .u32 0, .string (⟨#[]⟩ : ByteArray)]) ?_ 4 _ rfl; (with_reducible repeat (first | refine blk_drewN ?_ _ | refine blk_drew ?_ | refine blk_alloc ?_ _)); refine blk_put (cs := #[.int .i64 t135, .int .i64 t136, .int .u32 t137, .int .u32 0, .int .u32 0, .string (⟨#[]⟩ : ByteArray)]) ?_ 3 _ rfl; (with_reducible repeat (first | refine blk_drewN ?_ _ | refine blk_drew ?_ | refine blk_alloc ?_ _)); refine blk_put (cs := #[.int .i64 t135, .int .i64 t136, .int .u32 0, .int .u32 0, .int .u32 0, .string (⟨#[]⟩ : ByteArray)]) ?_ 2 _ rfl; (with_reducible repeat (first | refine blk_drewN ?_ _ | refine blk_drew ?_ | refine blk_alloc ?_ _)); refine blk_put (cs := #[.int .i64 t135, .int .i64 0, .int .u32 0, .int .u32 0, .int .u32 0, .string (⟨#[]⟩ : ByteArray)]) ?_ 1 _ rfl; (with_reducible repeat (first | refine blk_drewN ?_ _ | refine blk_drew ?_ | refine blk_alloc ?_ _)); refine blk_put (cs := #[.int .i64 0, .int .i64 0, .int .u32 0, .int .u32 0, .int .u32 0, .string (⟨#[]⟩ : ByteArray)]) ?_ 0 _ rfl; (with_reducible repeat (first | refine blk_drewN ?_ _ | refine blk_drew ?_ | refine blk_alloc ?_ _)); exact BK142.out⟩, ⟨by repeat (first | (with_reducible first | exact HB.out | apply below_alloc | apply pw_below_drewN | apply below_drew1 | refine below_set ?_ GE134.out | refine below_set ?_ GE142.out) | exact HB.out)⟩⟩
    case rest =>
      clear HC8
      try clear c1
      try clear p2
      try clear c3
      try clear c13
      try clear c16
      try clear c17
      try clear hcz10_0
      try clear hcz10_1
      try clear hcz10_2
      try clear hcz10_3
      try clear hcz10_4
      try clear hcz14_0
      try clear hcz14_1
      try clear hcz14_2
      try clear hcz14_3
      try clear hcz14_4
      try clear hcz14_5
      try clear hcz15_0
      try clear hcz15_1
      try clear hcz15_2
      try clear hcz15_3
      try clear hcz15_4
      try clear hfz10_0
      try clear hfz10_1
      try clear hfz10_2
      try clear hfz10_3
      try clear hfz10_4
      try clear hfz14_0
      try clear hfz14_1
      try clear hfz14_2
      try clear hfz14_3
      try clear hfz14_4
      try clear hfz14_5
      try clear hfz15_0
      try clear hfz15_1
      try clear hfz15_2
      try clear hfz15_3
      try clear hfz15_4
      obtain ⟨kq, x50_7, rfl, HA, HJ7, BK134, BK142, HB⟩ := hcut
      cases kq with
      | zero => exact absurd HA.out (by simp [ravelinref15_Encode.j0])
      | succ kj7 =>
        have H := HA.out
        clear HA
        simp only [ravelinref15_Encode.j0] at H
        by_cases c18 : x50_7 = true
        · subst c18
          have H1 : (some (0, 151)) = some (r1, r2) := by rw [if_pos rfl] at H; exact H
          clear H
          have H := H1
          clear H1
          simp only [Option.some.injEq, Prod.mk.injEq] at H
          obtain ⟨rfl, rfl⟩ := H
          go_wp2
          repeat (go_quiet (fail); try go_wp2)
          go_ret2
          exact ⟨by first | rfl | (simp [errW_none, errW_some] <;> rfl) | (simp [*, errW_none, errW_some] <;> rfl), by repeat (first | (with_reducible first | exact HB.out | apply below_alloc | apply pw_below_drewN | apply below_drew1 | refine below_set ?_ GE134.out | refine below_set ?_ GE142.out) | exact HB.out)⟩
        · replace c18 := Bool.eq_false_iff.mpr c18
          subst c18
          have H1 : ((ravelinref15_imm.f kj7 t136 a0_4).bind fun t149 => (if t149 = true then ((ravelinref15_lay.f kj7 t136 a0_4).bind fun t150 => (if t143 = true then (ravelinref15_Encode.j1 kj7 t144 t145 (Go.bits .or .u32 (Go.bits .or .u32 t137 t150) ((((a0_1) % 4294967296) * 128) % 4294967296)) a0_0 a0_1 a0_2 a0_3 a0_4 t135 t136 t137 t138 t139 t140) else (ravelinref15_Encode.j1 kj7 t144 t145 (Go.bits .or .u32 t137 t150) a0_0 a0_1 a0_2 a0_3 a0_4 t135 t136 t137 t138 t139 t140))) else (some (0, 152)))) = some (r1, r2) := by rw [if_neg (show ¬ (false = true) by decide)] at H; exact H
          clear H
          have H := H1
          clear H1
          replace H := Option.bind_eq_some_iff.mp H
          obtain ⟨t149, A190, H⟩ := H
          replace H : (if t149 = true then ((ravelinref15_lay.f kj7 t136 a0_4).bind fun t150 => (if t143 = true then (ravelinref15_Encode.j1 kj7 t144 t145 (Go.bits .or .u32 (Go.bits .or .u32 t137 t150) ((((a0_1) % 4294967296) * 128) % 4294967296)) a0_0 a0_1 a0_2 a0_3 a0_4 t135 t136 t137 t138 t139 t140) else (ravelinref15_Encode.j1 kj7 t144 t145 (Go.bits .or .u32 t137 t150) a0_0 a0_1 a0_2 a0_3 a0_4 t135 t136 t137 t138 t139 t140))) else (some (0, 152))) = some (r1, r2) := H
          have A19 := Aside0.mk A190
          clear A190
          by_cases c20 : t149 = true
          · subst c20
            have H1 : ((ravelinref15_lay.f kj7 t136 a0_4).bind fun t150 => (if t143 = true then (ravelinref15_Encode.j1 kj7 t144 t145 (Go.bits .or .u32 (Go.bits .or .u32 t137 t150) ((((a0_1) % 4294967296) * 128) % 4294967296)) a0_0 a0_1 a0_2 a0_3 a0_4 t135 t136 t137 t138 t139 t140) else (ravelinref15_Encode.j1 kj7 t144 t145 (Go.bits .or .u32 t137 t150) a0_0 a0_1 a0_2 a0_3 a0_4 t135 t136 t137 t138 t139 t140))) = some (r1, r2) := by rw [if_pos rfl] at H; exact H
            clear H
            have H := H1
            clear H1
            replace H := Option.bind_eq_some_iff.mp H
            obtain ⟨t150, A210, H⟩ := H
            replace H : (if t143 = true then (ravelinref15_Encode.j1 kj7 t144 t145 (Go.bits .or .u32 (Go.bits .or .u32 t137 t150) ((((a0_1) % 4294967296) * 128) % 4294967296)) a0_0 a0_1 a0_2 a0_3 a0_4 t135 t136 t137 t138 t139 t140) else (ravelinref15_Encode.j1 kj7 t144 t145 (Go.bits .or .u32 t137 t150) a0_0 a0_1 a0_2 a0_3 a0_4 t135 t136 t137 t138 t139 t140)) = some (r1, r2) := H
            have A21 := Aside0.mk A210
            clear A210
            have HC22 := Aside0.mk H
            clear H
            have hnb23 := NB142_134.out
            have hnc23 := NB134_142.out
            have hcz24_0 : wc.cell? ⟨gb142, 0, none⟩ = some (.int .i64 t135) := (blk_cell BK142.out 0).trans rfl
            have hcz24_1 : wc.cell? ⟨gb142, 1, none⟩ = some (.int .i64 t136) := (blk_cell BK142.out 1).trans rfl
            have hcz24_2 : wc.cell? ⟨gb142, 2, none⟩ = some (.int .u32 t137) := (blk_cell BK142.out 2).trans rfl
            have hcz24_3 : wc.cell? ⟨gb142, 3, none⟩ = some (.int .u32 t138) := (blk_cell BK142.out 3).trans rfl
            have hcz24_4 : wc.cell? ⟨gb142, 4, none⟩ = some (.int .u32 t139) := (blk_cell BK142.out 4).trans rfl
            have hcz24_5 : wc.cell? ⟨gb142, 5, none⟩ = some (.string t140) := (blk_cell BK142.out 5).trans rfl
            have hfz24_0 := blk_frozen BK142.out 0
            have hfz24_1 := blk_frozen BK142.out 1
            have hfz24_2 := blk_frozen BK142.out 2
            have hfz24_3 := blk_frozen BK142.out 3
            have hfz24_4 := blk_frozen BK142.out 4
            have hfz24_5 := blk_frozen BK142.out 5
            have hcz25_0 : wc.cell? ⟨gb134, 0, none⟩ = some (.int .i64 a0_0) := (blk_cell BK134.out 0).trans rfl
            have hcz25_1 : wc.cell? ⟨gb134, 1, none⟩ = some (.int .i64 a0_1) := (blk_cell BK134.out 1).trans rfl
            have hcz25_2 : wc.cell? ⟨gb134, 2, none⟩ = some (.int .i64 a0_2) := (blk_cell BK134.out 2).trans rfl
            have hcz25_3 : wc.cell? ⟨gb134, 3, none⟩ = some (.int .i64 a0_3) := (blk_cell BK134.out 3).trans rfl
            have hcz25_4 : wc.cell? ⟨gb134, 4, none⟩ = some (.int .i64 a0_4) := (blk_cell BK134.out 4).trans rfl
            have hfz25_0 := blk_frozen BK134.out 0
            have hfz25_1 := blk_frozen BK134.out 1
            have hfz25_2 := blk_frozen BK134.out 2
            have hfz25_3 := blk_frozen BK134.out 3
            have hfz25_4 := blk_frozen BK134.out 4
            go_upto_if 66 with (first | (go_at_call 31; (with_reducible refine (ravelinref15_imm.calls kj7 t136 a0_4 true _ A19.out).mono ?_); rintro e w' ⟨rfl, ⟨nd, rfl⟩⟩; (try first | exact ⟨rfl, _, World.drewN_drewN _ _ _⟩ | exact ⟨rfl, _, Eq.trans (World.drewN_drewN _ _ _) (congrArg (World.drewN _) (Nat.add_assoc _ _ _))⟩)) | (go_at_call 32; (with_reducible refine (ravelinref15_lay.calls kj7 t136 a0_4 t150 _ A21.out).mono ?_); rintro e w' ⟨rfl, ⟨nd, rfl⟩⟩; (try first | exact ⟨rfl, _, World.drewN_drewN _ _ _⟩ | exact ⟨rfl, _, Eq.trans (World.drewN_drewN _ _ _) (congrArg (World.drewN _) (Nat.add_assoc _ _ _))⟩)))
            repeat (go_quiet (first | (go_at_call 31; (with_reducible refine (ravelinref15_imm.calls kj7 t136 a0_4 true _ A19.out).mono ?_); rintro e w' ⟨rfl, ⟨nd, rfl⟩⟩; (try first | exact ⟨rfl, _, World.drewN_drewN _ _ _⟩ | exact ⟨rfl, _, Eq.trans (World.drewN_drewN _ _ _) (congrArg (World.drewN _) (Nat.add_assoc _ _ _))⟩)) | (go_at_call 32; (with_reducible refine (ravelinref15_lay.calls kj7 t136 a0_4 t150 _ A21.out).mono ?_); rintro e w' ⟨rfl, ⟨nd, rfl⟩⟩; (try first | exact ⟨rfl, _, World.drewN_drewN _ _ _⟩ | exact ⟨rfl, _, Eq.trans (World.drewN_drewN _ _ _) (congrArg (World.drewN _) (Nat.add_assoc _ _ _))⟩))); go_upto_if 66 with (first | (go_at_call 31; (with_reducible refine (ravelinref15_imm.calls kj7 t136 a0_4 true _ A19.out).mono ?_); rintro e w' ⟨rfl, ⟨nd, rfl⟩⟩; (try first | exact ⟨rfl, _, World.drewN_drewN _ _ _⟩ | exact ⟨rfl, _, Eq.trans (World.drewN_drewN _ _ _) (congrArg (World.drewN _) (Nat.add_assoc _ _ _))⟩)) | (go_at_call 32; (with_reducible refine (ravelinref15_lay.calls kj7 t136 a0_4 t150 _ A21.out).mono ?_); rintro e w' ⟨rfl, ⟨nd, rfl⟩⟩; (try first | exact ⟨rfl, _, World.drewN_drewN _ _ _⟩ | exact ⟨rfl, _, Eq.trans (World.drewN_drewN _ _ _) (congrArg (World.drewN _) (Nat.add_assoc _ _ _))⟩))))
            (try simp only [Act.put, List.setIfInBounds_toArray, List.set])
            go_cut [13] (fun v13 wc => ∃ (kq : Nat) (x13_21 : Int), v13 = .int .u32 x13_21 ∧ Aside0 (ravelinref15_Encode.j1 kq t144 t145 x13_21 a0_0 a0_1 a0_2 a0_3 a0_4 t135 t136 t137 t138 t139 t140 = some (r1, r2)) ∧ Aside0 (kq ≤ kj7) ∧ Aside0 (wc.heap[gb134]? = some (.cells #[.int .i64 a0_0, .int .i64 a0_1, .int .i64 a0_2, .int .i64 a0_3, .int .i64 a0_4] 42 (0, 0))) ∧ Aside0 (wc.heap[gb142]? = some (.cells #[.int .i64 t135, .int .i64 t136, .int .u32 t137, .int .u32 t138, .int .u32 t139, .string t140] 59 (0, 0))) ∧ Aside0 (Below w.heap.size w wc))
            case first =>
              have H := HC22.out
              clear HC22
              by_cases c26 : t143 = true
              · subst c26
                have H1 : (ravelinref15_Encode.j1 kj7 t144 t145 (Go.bits .or .u32 (Go.bits .or .u32 t137 t150) ((((a0_1) % 4294967296) * 128) % 4294967296)) a0_0 a0_1 a0_2 a0_3 a0_4 t135 t136 t137 t138 t139 t140) = some (r1, r2) := by rw [if_pos rfl] at H; exact H
                clear H
                have H := H1
                clear H1
                have H' := Aside0.mk H
                clear H
                have hnb27 := NB134_142.out
                have hnc27 := NB142_134.out
                have hcz28_0 : wc.cell? ⟨gb134, 0, none⟩ = some (.int .i64 a0_0) := (blk_cell BK134.out 0).trans rfl
                have hcz28_1 : wc.cell? ⟨gb134, 1, none⟩ = some (.int .i64 a0_1) := (blk_cell BK134.out 1).trans rfl
                have hcz28_2 : wc.cell? ⟨gb134, 2, none⟩ = some (.int .i64 a0_2) := (blk_cell BK134.out 2).trans rfl
                have hcz28_3 : wc.cell? ⟨gb134, 3, none⟩ = some (.int .i64 a0_3) := (blk_cell BK134.out 3).trans rfl
                have hcz28_4 : wc.cell? ⟨gb134, 4, none⟩ = some (.int .i64 a0_4) := (blk_cell BK134.out 4).trans rfl
                have hfz28_0 := blk_frozen BK134.out 0
                have hfz28_1 := blk_frozen BK134.out 1
                have hfz28_2 := blk_frozen BK134.out 2
                have hfz28_3 := blk_frozen BK134.out 3
                have hfz28_4 := blk_frozen BK134.out 4
                go_wp2
                repeat (go_quiet (fail); try go_wp2)
                go_meet
                case rel => exact ⟨_, (Go.bits .or .u32 (Go.bits .or .u32 t137 t150) ((((a0_1) % 4294967296) * 128) % 4294967296)), (by first | rfl | (simp; done) | (simp [*]; done)), H', ⟨by have := HJ7.out; first | omega | exact Nat.le_refl _⟩, ⟨by (with_reducible repeat (first | refine blk_drewN ?_ _ | refine blk_drew ?_ | refine blk_alloc ?_ _)); exact BK134.out⟩, ⟨by (with_reducible repeat (first | refine blk_drewN ?_ _ | refine blk_drew ?_ | refine blk_alloc ?_ _)); exact BK142.out⟩, ⟨by repeat (first | (with_reducible first | exact HB.out | apply below_alloc | apply pw_below_drewN | apply below_drew1 | refine below_set ?_ GE134.out | refine below_set ?_ GE142.out) | exact HB.out)⟩⟩
              · replace c26 := Bool.eq_false_iff.mpr c26
                subst c26
                have H1 : (ravelinref15_Encode.j1 kj7 t144 t145 (Go.bits .or .u32 t137 t150) a0_0 a0_1 a0_2 a0_3 a0_4 t135 t136 t137 t138 t139 t140) = some (r1, r2) := by rw [if_neg (show ¬ (false = true) by decide)] at H; exact H
                clear H
                have H := H1
                clear H1
                have H' := Aside0.mk H
                clear H
                go_wp2
                repeat (go_quiet (fail); try go_wp2)
                go_meet
                case rel => exact ⟨_, (Go.bits .or .u32 t137 t150), (by first | rfl | (simp; done) | (simp [*]; done)), H', ⟨by have := HJ7.out; first | omega | exact Nat.le_refl _⟩, ⟨by (with_reducible repeat (first | refine blk_drewN ?_ _ | refine blk_drew ?_ | refine blk_alloc ?_ _)); exact BK134.out⟩, ⟨by (with_reducible repeat (first | refine blk_drewN ?_ _ | refine blk_drew ?_ | refine blk_alloc ?_ _)); exact BK142.out⟩, ⟨by repeat (first | (with_reducible first | exact HB.out | apply below_alloc | apply pw_below_drewN | apply below_drew1 | refine below_set ?_ GE134.out | refine below_set ?_ GE142.out) | exact HB.out)⟩⟩
            case rest =>
              clear HC22
              try clear c1
              try clear c2
              try clear p2
              try clear c3
              try clear c13
              try clear c16
              try clear c17
              try clear c18
              try clear c20
              try clear c23
              try clear c26
              try clear c27
              try clear hcz10_0
              try clear hcz10_1
              try clear hcz10_2
              try clear hcz10_3
              try clear hcz10_4
              try clear hcz14_0
              try clear hcz14_1
              try clear hcz14_2
              try clear hcz14_3
              try clear hcz14_4
              try clear hcz14_5
              try clear hcz15_0
              try clear hcz15_1
              try clear hcz15_2
              try clear hcz15_3
              try clear hcz15_4
              try clear hcz24_0
              try clear hcz24_1
              try clear hcz24_2
              try clear hcz24_3
              try clear hcz24_4
              try clear hcz24_5
              try clear hcz25_0
              try clear hcz25_1
              try clear hcz25_2
              try clear hcz25_3
              try clear hcz25_4
              try clear hcz28_0
              try clear hcz28_1
              try clear hcz28_2
              try clear hcz28_3
              try clear hcz28_4
              try clear hfz10_0
              try clear hfz10_1
              try clear hfz10_2
              try clear hfz10_3
              try clear hfz10_4
              try clear hfz14_0
              try clear hfz14_1
              try clear hfz14_2
              try clear hfz14_3
              try clear hfz14_4
              try clear hfz14_5
              try clear hfz15_0
              try clear hfz15_1
              try clear hfz15_2
              try clear hfz15_3
              try clear hfz15_4
              try clear hfz24_0
              try clear hfz24_1
              try clear hfz24_2
              try clear hfz24_3
              try clear hfz24_4
              try clear hfz24_5
              try clear hfz25_0
              try clear hfz25_1
              try clear hfz25_2
              try clear hfz25_3
              try clear hfz25_4
              try clear hfz28_0
              try clear hfz28_1
              try clear hfz28_2
              try clear hfz28_3
              try clear hfz28_4
              try clear p2
              obtain ⟨kq, x13_21, rfl, HA, HJ21, BK134, BK142, HB⟩ := hcut
              cases kq with
              | zero => exact absurd HA.out (by simp [ravelinref15_Encode.j1])
              | succ kj21 =>
                have H := HA.out
                clear HA
                simp only [ravelinref15_Encode.j1] at H
                have HC29 := Aside0.mk H
                clear H
                go_upto_if 73 with (fail)
                repeat (go_quiet (fail); go_upto_if 73 with (fail))
                go_cut [13] (fun v13 wc => ∃ (kq : Nat) (x13_28 : Int), v13 = .int .u32 x13_28 ∧ Aside0 (ravelinref15_Encode.j2 kq t145 x13_28 a0_0 a0_1 a0_2 a0_3 a0_4 t135 t136 t137 t138 t139 t140 = some (r1, r2)) ∧ Aside0 (kq ≤ kj21) ∧ Aside0 (wc.heap[gb134]? = some (.cells #[.int .i64 a0_0, .int .i64 a0_1, .int .i64 a0_2, .int .i64 a0_3, .int .i64 a0_4] 42 (0, 0))) ∧ Aside0 (wc.heap[gb142]? = some (.cells #[.int .i64 t135, .int .i64 t136, .int .u32 t137, .int .u32 t138, .int .u32 t139, .string t140] 59 (0, 0))) ∧ Aside0 (Below w.heap.size w wc))
                case first =>
                  have H := HC29.out
                  clear HC29
                  by_cases c30 : t144 = true
                  · subst c30
                    have H1 : (ravelinref15_Encode.j2 kj21 t145 (Go.bits .or .u32 x13_21 ((((a0_2) % 4294967296) * 32768) % 4294967296)) a0_0 a0_1 a0_2 a0_3 a0_4 t135 t136 t137 t138 t139 t140) = some (r1, r2) := by rw [if_pos rfl] at H; exact H
                    clear H
                    have H := H1
                    clear H1
                    have H' := Aside0.mk H
                    clear H
                    have hnb31 := NB134_142.out
                    have hnc31 := NB142_134.out
                    have hcz32_0 : wc.cell? ⟨gb134, 0, none⟩ = some (.int .i64 a0_0) := (blk_cell BK134.out 0).trans rfl
                    have hcz32_1 : wc.cell? ⟨gb134, 1, none⟩ = some (.int .i64 a0_1) := (blk_cell BK134.out 1).trans rfl
                    have hcz32_2 : wc.cell? ⟨gb134, 2, none⟩ = some (.int .i64 a0_2) := (blk_cell BK134.out 2).trans rfl
                    have hcz32_3 : wc.cell? ⟨gb134, 3, none⟩ = some (.int .i64 a0_3) := (blk_cell BK134.out 3).trans rfl
                    have hcz32_4 : wc.cell? ⟨gb134, 4, none⟩ = some (.int .i64 a0_4) := (blk_cell BK134.out 4).trans rfl
                    have hfz32_0 := blk_frozen BK134.out 0
                    have hfz32_1 := blk_frozen BK134.out 1
                    have hfz32_2 := blk_frozen BK134.out 2
                    have hfz32_3 := blk_frozen BK134.out 3
                    have hfz32_4 := blk_frozen BK134.out 4
                    go_wp2
                    repeat (go_quiet (fail); try go_wp2)
                    go_meet
                    case rel => exact ⟨_, (Go.bits .or .u32 x13_21 ((((a0_2) % 4294967296) * 32768) % 4294967296)), (by first | rfl | (simp; done) | (simp [*]; done)), H', ⟨by have := HJ7.out; have := HJ21.out; first | omega | exact Nat.le_refl _⟩, ⟨by (with_reducible repeat (first | refine blk_drewN ?_ _ | refine blk_drew ?_ | refine blk_alloc ?_ _)); exact BK134.out⟩, ⟨by (with_reducible repeat (first | refine blk_drewN ?_ _ | refine blk_drew ?_ | refine blk_alloc ?_ _)); exact BK142.out⟩, ⟨by repeat (first | (with_reducible first | exact HB.out | apply below_alloc | apply pw_below_drewN | apply below_drew1 | refine below_set ?_ GE134.out | refine below_set ?_ GE142.out) | exact HB.out)⟩⟩
                  · replace c30 := Bool.eq_false_iff.mpr c30
                    subst c30
                    have H1 : (ravelinref15_Encode.j2 kj21 t145 x13_21 a0_0 a0_1 a0_2 a0_3 a0_4 t135 t136 t137 t138 t139 t140) = some (r1, r2) := by rw [if_neg (show ¬ (false = true) by decide)] at H; exact H
                    clear H
                    have H := H1
                    clear H1
                    have H' := Aside0.mk H
                    clear H
                    go_wp2
                    repeat (go_quiet (fail); try go_wp2)
                    go_meet
                    case rel => exact ⟨_, (x13_21), (by first | rfl | (simp; done) | (simp [*]; done)), H', ⟨by have := HJ7.out; have := HJ21.out; first | omega | exact Nat.le_refl _⟩, ⟨by (with_reducible repeat (first | refine blk_drewN ?_ _ | refine blk_drew ?_ | refine blk_alloc ?_ _)); exact BK134.out⟩, ⟨by (with_reducible repeat (first | refine blk_drewN ?_ _ | refine blk_drew ?_ | refine blk_alloc ?_ _)); exact BK142.out⟩, ⟨by repeat (first | (with_reducible first | exact HB.out | apply below_alloc | apply pw_below_drewN | apply below_drew1 | refine below_set ?_ GE134.out | refine below_set ?_ GE142.out) | exact HB.out)⟩⟩
                case rest =>
                  clear HC29
                  try clear c1
                  try clear c2
                  try clear p2
                  try clear c3
                  try clear c13
                  try clear c16
                  try clear c17
                  try clear c18
                  try clear c20
                  try clear c23
                  try clear c26
                  try clear c27
                  try clear c30
                  try clear c31
                  try clear hcz10_0
                  try clear hcz10_1
                  try clear hcz10_2
                  try clear hcz10_3
                  try clear hcz10_4
                  try clear hcz14_0
                  try clear hcz14_1
                  try clear hcz14_2
                  try clear hcz14_3
                  try clear hcz14_4
                  try clear hcz14_5
                  try clear hcz15_0
                  try clear hcz15_1
                  try clear hcz15_2
                  try clear hcz15_3
                  try clear hcz15_4
                  try clear hcz24_0
                  try clear hcz24_1
                  try clear hcz24_2
                  try clear hcz24_3
                  try clear hcz24_4
                  try clear hcz24_5
                  try clear hcz25_0
                  try clear hcz25_1
                  try clear hcz25_2
                  try clear hcz25_3
                  try clear hcz25_4
                  try clear hcz28_0
                  try clear hcz28_1
                  try clear hcz28_2
                  try clear hcz28_3
                  try clear hcz28_4
                  try clear hcz32_0
                  try clear hcz32_1
                  try clear hcz32_2
                  try clear hcz32_3
                  try clear hcz32_4
                  try clear hfz10_0
                  try clear hfz10_1
                  try clear hfz10_2
                  try clear hfz10_3
                  try clear hfz10_4
                  try clear hfz14_0
                  try clear hfz14_1
                  try clear hfz14_2
                  try clear hfz14_3
                  try clear hfz14_4
                  try clear hfz14_5
                  try clear hfz15_0
                  try clear hfz15_1
                  try clear hfz15_2
                  try clear hfz15_3
                  try clear hfz15_4
                  try clear hfz24_0
                  try clear hfz24_1
                  try clear hfz24_2
                  try clear hfz24_3
                  try clear hfz24_4
                  try clear hfz24_5
                  try clear hfz25_0
                  try clear hfz25_1
                  try clear hfz25_2
                  try clear hfz25_3
                  try clear hfz25_4
                  try clear hfz28_0
                  try clear hfz28_1
                  try clear hfz28_2
                  try clear hfz28_3
                  try clear hfz28_4
                  try clear hfz32_0
                  try clear hfz32_1
                  try clear hfz32_2
                  try clear hfz32_3
                  try clear hfz32_4
                  try clear p2
                  obtain ⟨kq, x13_28, rfl, HA, HJ28, BK134, BK142, HB⟩ := hcut
                  cases kq with
                  | zero => exact absurd HA.out (by simp [ravelinref15_Encode.j2])
                  | succ kj28 =>
                    have H := HA.out
                    clear HA
                    simp only [ravelinref15_Encode.j2] at H
                    have HC33 := Aside0.mk H
                    clear H
                    go_upto_if 80 with (fail)
                    repeat (go_quiet (fail); go_upto_if 80 with (fail))
                    go_cut [13] (fun v13 wc => ∃ (kq : Nat) (x13_32 : Int), v13 = .int .u32 x13_32 ∧ Aside0 (ravelinref15_Encode.j3 kq x13_32 t135 t136 t137 t138 t139 t140 = some (r1, r2)) ∧ Aside0 (kq ≤ kj28) ∧ Aside0 (wc.heap[gb134]? = some (.cells #[.int .i64 a0_0, .int .i64 a0_1, .int .i64 a0_2, .int .i64 a0_3, .int .i64 a0_4] 42 (0, 0))) ∧ Aside0 (wc.heap[gb142]? = some (.cells #[.int .i64 t135, .int .i64 t136, .int .u32 t137, .int .u32 t138, .int .u32 t139, .string t140] 59 (0, 0))) ∧ Aside0 (Below w.heap.size w wc))
                    case first =>
                      have H := HC33.out
                      clear HC33
                      by_cases c34 : t145 = true
                      · subst c34
                        have H1 : (ravelinref15_Encode.j3 kj28 (Go.bits .or .u32 x13_28 ((((a0_3) % 4294967296) * 1048576) % 4294967296)) t135 t136 t137 t138 t139 t140) = some (r1, r2) := by rw [if_pos rfl] at H; exact H
                        clear H
                        have H := H1
                        clear H1
                        have H' := Aside0.mk H
                        clear H
                        have hnb35 := NB134_142.out
                        have hnc35 := NB142_134.out
                        have hcz36_0 : wc.cell? ⟨gb134, 0, none⟩ = some (.int .i64 a0_0) := (blk_cell BK134.out 0).trans rfl
                        have hcz36_1 : wc.cell? ⟨gb134, 1, none⟩ = some (.int .i64 a0_1) := (blk_cell BK134.out 1).trans rfl
                        have hcz36_2 : wc.cell? ⟨gb134, 2, none⟩ = some (.int .i64 a0_2) := (blk_cell BK134.out 2).trans rfl
                        have hcz36_3 : wc.cell? ⟨gb134, 3, none⟩ = some (.int .i64 a0_3) := (blk_cell BK134.out 3).trans rfl
                        have hcz36_4 : wc.cell? ⟨gb134, 4, none⟩ = some (.int .i64 a0_4) := (blk_cell BK134.out 4).trans rfl
                        have hfz36_0 := blk_frozen BK134.out 0
                        have hfz36_1 := blk_frozen BK134.out 1
                        have hfz36_2 := blk_frozen BK134.out 2
                        have hfz36_3 := blk_frozen BK134.out 3
                        have hfz36_4 := blk_frozen BK134.out 4
                        go_wp2
                        repeat (go_quiet (fail); try go_wp2)
                        go_meet
                        case rel => exact ⟨_, (Go.bits .or .u32 x13_28 ((((a0_3) % 4294967296) * 1048576) % 4294967296)), (by first | rfl | (simp; done) | (simp [*]; done)), H', ⟨by have := HJ7.out; have := HJ21.out; have := HJ28.out; first | omega | exact Nat.le_refl _⟩, ⟨by (with_reducible repeat (first | refine blk_drewN ?_ _ | refine blk_drew ?_ | refine blk_alloc ?_ _)); exact BK134.out⟩, ⟨by (with_reducible repeat (first | refine blk_drewN ?_ _ | refine blk_drew ?_ | refine blk_alloc ?_ _)); exact BK142.out⟩, ⟨by repeat (first | (with_reducible first | exact HB.out | apply below_alloc | apply pw_below_drewN | apply below_drew1 | refine below_set ?_ GE134.out | refine below_set ?_ GE142.out) | exact HB.out)⟩⟩
                      · replace c34 := Bool.eq_false_iff.mpr c34
                        subst c34
                        have H1 : (ravelinref15_Encode.j3 kj28 x13_28 t135 t136 t137 t138 t139 t140) = some (r1, r2) := by rw [if_neg (show ¬ (false = true) by decide)] at H; exact H
                        clear H
                        have H := H1
                        clear H1
                        have H' := Aside0.mk H
                        clear H
                        go_wp2
                        repeat (go_quiet (fail); try go_wp2)
                        go_meet
                        case rel => exact ⟨_, (x13_28), (by first | rfl | (simp; done) | (simp [*]; done)), H', ⟨by have := HJ7.out; have := HJ21.out; have := HJ28.out; first | omega | exact Nat.le_refl _⟩, ⟨by (with_reducible repeat (first | refine blk_drewN ?_ _ | refine blk_drew ?_ | refine blk_alloc ?_ _)); exact BK134.out⟩, ⟨by (with_reducible repeat (first | refine blk_drewN ?_ _ | refine blk_drew ?_ | refine blk_alloc ?_ _)); exact BK142.out⟩, ⟨by repeat (first | (with_reducible first | exact HB.out | apply below_alloc | apply pw_below_drewN | apply below_drew1 | refine below_set ?_ GE134.out | refine below_set ?_ GE142.out) | exact HB.out)⟩⟩
                    case rest =>
                      clear HC33
                      try clear c1
                      try clear c2
                      try clear p2
                      try clear c3
                      try clear c13
                      try clear c16
                      try clear c17
                      try clear c18
                      try clear c20
                      try clear c23
                      try clear c26
                      try clear c27
                      try clear c30
                      try clear c31
                      try clear c34
                      try clear c35
                      try clear hcz10_0
                      try clear hcz10_1
                      try clear hcz10_2
                      try clear hcz10_3
                      try clear hcz10_4
                      try clear hcz14_0
                      try clear hcz14_1
                      try clear hcz14_2
                      try clear hcz14_3
                      try clear hcz14_4
                      try clear hcz14_5
                      try clear hcz15_0
                      try clear hcz15_1
                      try clear hcz15_2
                      try clear hcz15_3
                      try clear hcz15_4
                      try clear hcz24_0
                      try clear hcz24_1
                      try clear hcz24_2
                      try clear hcz24_3
                      try clear hcz24_4
                      try clear hcz24_5
                      try clear hcz25_0
                      try clear hcz25_1
                      try clear hcz25_2
                      try clear hcz25_3
                      try clear hcz25_4
                      try clear hcz28_0
                      try clear hcz28_1
                      try clear hcz28_2
                      try clear hcz28_3
                      try clear hcz28_4
                      try clear hcz32_0
                      try clear hcz32_1
                      try clear hcz32_2
                      try clear hcz32_3
                      try clear hcz32_4
                      try clear hcz36_0
                      try clear hcz36_1
                      try clear hcz36_2
                      try clear hcz36_3
                      try clear hcz36_4
                      try clear hfz10_0
                      try clear hfz10_1
                      try clear hfz10_2
                      try clear hfz10_3
                      try clear hfz10_4
                      try clear hfz14_0
                      try clear hfz14_1
                      try clear hfz14_2
                      try clear hfz14_3
                      try clear hfz14_4
                      try clear hfz14_5
                      try clear hfz15_0
                      try clear hfz15_1
                      try clear hfz15_2
                      try clear hfz15_3
                      try clear hfz15_4
                      try clear hfz24_0
                      try clear hfz24_1
                      try clear hfz24_2
                      try clear hfz24_3
                      try clear hfz24_4
                      try clear hfz24_5
                      try clear hfz25_0
                      try clear hfz25_1
                      try clear hfz25_2
                      try clear hfz25_3
                      try clear hfz25_4
                      try clear hfz28_0
                      try clear hfz28_1
                      try clear hfz28_2
                      try clear hfz28_3
                      try clear hfz28_4
                      try clear hfz32_0
                      try clear hfz32_1
                      try clear hfz32_2
                      try clear hfz32_3
                      try clear hfz32_4
                      try clear hfz36_0
                      try clear hfz36_1
                      try clear hfz36_2
                      try clear hfz36_3
                      try clear hfz36_4
                      try clear p2
                      obtain ⟨kq, x13_32, rfl, HA, HJ32, BK134, BK142, HB⟩ := hcut
                      cases kq with
                      | zero => exact absurd HA.out (by simp [ravelinref15_Encode.j3])
                      | succ kj32 =>
                        have H := HA.out
                        clear HA
                        simp only [ravelinref15_Encode.j3] at H
                        have HC37 := Aside0.mk H
                        clear H
                        go_upto_region 20 with (fail)
                        repeat (go_quiet (fail); go_upto_region 20 with (fail))
                        go_cut [94] (fun v94 wc => ∃ (kq : Nat) (x94_36 : Bool), v94 = .bool x94_36 ∧ Aside0 (ravelinref15_Encode.j4 kq x13_32 x94_36 t135 t136 t137 t138 t139 t140 = some (r1, r2)) ∧ Aside0 (kq ≤ kj32) ∧ Aside0 (wc.heap[gb134]? = some (.cells #[.int .i64 a0_0, .int .i64 a0_1, .int .i64 a0_2, .int .i64 a0_3, .int .i64 a0_4] 42 (0, 0))) ∧ Aside0 (wc.heap[gb142]? = some (.cells #[.int .i64 t135, .int .i64 t136, .int .u32 t137, .int .u32 t138, .int .u32 t139, .string t140] 59 (0, 0))) ∧ Aside0 (Below w.heap.size w wc))
                        case first =>
                          have H := HC37.out
                          clear HC37
                          by_cases c38 : t136 = 1
                          · rw [if_pos c38] at H
                            have c38b0 : (t136 == 1) = true := beq_iff_eq.mpr c38
                            have c38b1 : (t136 != 1) = false := bne_eq_false_iff_eq.mpr c38
                            clear c38
                            (first | rw [c38b0] | (simp only [i64_w, i32_w]; rw [c38b0]) | skip)
                            have H' := Aside0.mk H
                            clear H
                            have hnb39 := NB142_134.out
                            have hnc39 := NB134_142.out
                            have hcz40_0 : wc.cell? ⟨gb142, 0, none⟩ = some (.int .i64 t135) := (blk_cell BK142.out 0).trans rfl
                            have hcz40_1 : wc.cell? ⟨gb142, 1, none⟩ = some (.int .i64 t136) := (blk_cell BK142.out 1).trans rfl
                            have hcz40_2 : wc.cell? ⟨gb142, 2, none⟩ = some (.int .u32 t137) := (blk_cell BK142.out 2).trans rfl
                            have hcz40_3 : wc.cell? ⟨gb142, 3, none⟩ = some (.int .u32 t138) := (blk_cell BK142.out 3).trans rfl
                            have hcz40_4 : wc.cell? ⟨gb142, 4, none⟩ = some (.int .u32 t139) := (blk_cell BK142.out 4).trans rfl
                            have hcz40_5 : wc.cell? ⟨gb142, 5, none⟩ = some (.string t140) := (blk_cell BK142.out 5).trans rfl
                            have hfz40_0 := blk_frozen BK142.out 0
                            have hfz40_1 := blk_frozen BK142.out 1
                            have hfz40_2 := blk_frozen BK142.out 2
                            have hfz40_3 := blk_frozen BK142.out 3
                            have hfz40_4 := blk_frozen BK142.out 4
                            have hfz40_5 := blk_frozen BK142.out 5
                            go_wp2
                            repeat (go_quiet (fail); try go_wp2)
                            go_meet
                            case rel => exact ⟨_, (false), (by first | rfl | (simp; done) | (simp [*]; done)), H', ⟨by have := HJ7.out; have := HJ21.out; have := HJ28.out; have := HJ32.out; first | omega | exact Nat.le_refl _⟩, ⟨by (with_reducible repeat (first | refine blk_drewN ?_ _ | refine blk_drew ?_ | refine blk_alloc ?_ _)); exact BK134.out⟩, ⟨by (with_reducible repeat (first | refine blk_drewN ?_ _ | refine blk_drew ?_ | refine blk_alloc ?_ _)); exact BK142.out⟩, ⟨by repeat (first | (with_reducible first | exact HB.out | apply below_alloc | apply pw_below_drewN | apply below_drew1 | refine below_set ?_ GE134.out | refine below_set ?_ GE142.out) | exact HB.out)⟩⟩
                          · rw [if_neg c38] at H
                            have c38b0 : (t136 == 1) = false := beq_eq_false_iff_ne.mpr c38
                            have c38b1 : (t136 != 1) = true := bne_iff_ne.mpr c38
                            (first | rw [c38b0] | (simp only [i64_w, i32_w]; rw [c38b0]) | skip)
                            have H' := Aside0.mk H
                            clear H
                            have hnb41 := NB142_134.out
                            have hnc41 := NB134_142.out
                            have hcz42_0 : wc.cell? ⟨gb142, 0, none⟩ = some (.int .i64 t135) := (blk_cell BK142.out 0).trans rfl
                            have hcz42_1 : wc.cell? ⟨gb142, 1, none⟩ = some (.int .i64 t136) := (blk_cell BK142.out 1).trans rfl
                            have hcz42_2 : wc.cell? ⟨gb142, 2, none⟩ = some (.int .u32 t137) := (blk_cell BK142.out 2).trans rfl
                            have hcz42_3 : wc.cell? ⟨gb142, 3, none⟩ = some (.int .u32 t138) := (blk_cell BK142.out 3).trans rfl
                            have hcz42_4 : wc.cell? ⟨gb142, 4, none⟩ = some (.int .u32 t139) := (blk_cell BK142.out 4).trans rfl
                            have hcz42_5 : wc.cell? ⟨gb142, 5, none⟩ = some (.string t140) := (blk_cell BK142.out 5).trans rfl
                            have hfz42_0 := blk_frozen BK142.out 0
                            have hfz42_1 := blk_frozen BK142.out 1
                            have hfz42_2 := blk_frozen BK142.out 2
                            have hfz42_3 := blk_frozen BK142.out 3
                            have hfz42_4 := blk_frozen BK142.out 4
                            have hfz42_5 := blk_frozen BK142.out 5
                            go_wp2
                            repeat (go_quiet (fail); try go_wp2)
                            go_meet
                            case rel => exact ⟨_, ((t136 != 8)), (by first | rfl | (simp; done) | (simp [*]; done)), H', ⟨by have := HJ7.out; have := HJ21.out; have := HJ28.out; have := HJ32.out; first | omega | exact Nat.le_refl _⟩, ⟨by (with_reducible repeat (first | refine blk_drewN ?_ _ | refine blk_drew ?_ | refine blk_alloc ?_ _)); exact BK134.out⟩, ⟨by (with_reducible repeat (first | refine blk_drewN ?_ _ | refine blk_drew ?_ | refine blk_alloc ?_ _)); exact BK142.out⟩, ⟨by repeat (first | (with_reducible first | exact HB.out | apply below_alloc | apply pw_below_drewN | apply below_drew1 | refine below_set ?_ GE134.out | refine below_set ?_ GE142.out) | exact HB.out)⟩⟩
                        case rest =>
                          clear HC37
                          try clear c1
                          try clear c2
                          try clear p2
                          try clear c3
                          try clear c4
                          try clear c13
                          try clear c16
                          try clear c17
                          try clear c18
                          try clear c20
                          try clear c23
                          try clear c26
                          try clear c27
                          try clear c30
                          try clear c31
                          try clear c34
                          try clear c35
                          try clear c38
                          try clear c38b0
                          try clear c38b1
                          try clear c39
                          try clear c41
                          try clear hcz10_0
                          try clear hcz10_1
                          try clear hcz10_2
                          try clear hcz10_3
                          try clear hcz10_4
                          try clear hcz14_0
                          try clear hcz14_1
                          try clear hcz14_2
                          try clear hcz14_3
                          try clear hcz14_4
                          try clear hcz14_5
                          try clear hcz15_0
                          try clear hcz15_1
                          try clear hcz15_2
                          try clear hcz15_3
                          try clear hcz15_4
                          try clear hcz24_0
                          try clear hcz24_1
                          try clear hcz24_2
                          try clear hcz24_3
                          try clear hcz24_4
                          try clear hcz24_5
                          try clear hcz25_0
                          try clear hcz25_1
                          try clear hcz25_2
                          try clear hcz25_3
                          try clear hcz25_4
                          try clear hcz28_0
                          try clear hcz28_1
                          try clear hcz28_2
                          try clear hcz28_3
                          try clear hcz28_4
                          try clear hcz32_0
                          try clear hcz32_1
                          try clear hcz32_2
                          try clear hcz32_3
                          try clear hcz32_4
                          try clear hcz36_0
                          try clear hcz36_1
                          try clear hcz36_2
                          try clear hcz36_3
                          try clear hcz36_4
                          try clear hcz40_0
                          try clear hcz40_1
                          try clear hcz40_2
                          try clear hcz40_3
                          try clear hcz40_4
                          try clear hcz40_5
                          try clear hcz42_0
                          try clear hcz42_1
                          try clear hcz42_2
                          try clear hcz42_3
                          try clear hcz42_4
                          try clear hcz42_5
                          try clear hfz10_0
                          try clear hfz10_1
                          try clear hfz10_2
                          try clear hfz10_3
                          try clear hfz10_4
                          try clear hfz14_0
                          try clear hfz14_1
                          try clear hfz14_2
                          try clear hfz14_3
                          try clear hfz14_4
                          try clear hfz14_5
                          try clear hfz15_0
                          try clear hfz15_1
                          try clear hfz15_2
                          try clear hfz15_3
                          try clear hfz15_4
                          try clear hfz24_0
                          try clear hfz24_1
                          try clear hfz24_2
                          try clear hfz24_3
                          try clear hfz24_4
                          try clear hfz24_5
                          try clear hfz25_0
                          try clear hfz25_1
                          try clear hfz25_2
                          try clear hfz25_3
                          try clear hfz25_4
                          try clear hfz28_0
                          try clear hfz28_1
                          try clear hfz28_2
                          try clear hfz28_3
                          try clear hfz28_4
                          try clear hfz32_0
                          try clear hfz32_1
                          try clear hfz32_2
                          try clear hfz32_3
                          try clear hfz32_4
                          try clear hfz36_0
                          try clear hfz36_1
                          try clear hfz36_2
                          try clear hfz36_3
                          try clear hfz36_4
                          try clear hfz40_0
                          try clear hfz40_1
                          try clear hfz40_2
                          try clear hfz40_3
                          try clear hfz40_4
                          try clear hfz40_5
                          try clear hfz42_0
                          try clear hfz42_1
                          try clear hfz42_2
                          try clear hfz42_3
                          try clear hfz42_4
                          try clear hfz42_5
                          try clear p2
                          obtain ⟨kq, x94_36, rfl, HA, HJ36, BK134, BK142, HB⟩ := hcut
                          cases kq with
                          | zero => exact absurd HA.out (by simp [ravelinref15_Encode.j4])
                          | succ kj36 =>
                            have H := HA.out
                            clear HA
                            simp only [ravelinref15_Encode.j4] at H
                            by_cases c43 : x94_36 = true
                            · subst c43
                              have H1 : (if t136 = 6 then (some (Go.bits .or .u32 (Go.bits .or .u32 x13_32 ((t138 * 4096) % 4294967296)) ((t139 * 33554432) % 4294967296), 0)) else (some (Go.bits .or .u32 x13_32 ((t138 * 4096) % 4294967296), 0))) = some (r1, r2) := by rw [if_pos rfl] at H; exact H
                              clear H
                              have H := H1
                              clear H1
                              by_cases c44 : t136 = 6
                              · rw [if_pos c44] at H
                                have c44b0 : (t136 == 6) = true := beq_iff_eq.mpr c44
                                have c44b1 : (t136 != 6) = false := bne_eq_false_iff_eq.mpr c44
                                clear c44
                                simp only [Option.some.injEq, Prod.mk.injEq] at H
                                obtain ⟨rfl, rfl⟩ := H
                                have hnb45 := NB142_134.out
                                have hnc45 := NB134_142.out
                                have hcz46_0 : wc.cell? ⟨gb142, 0, none⟩ = some (.int .i64 t135) := (blk_cell BK142.out 0).trans rfl
                                have hcz46_1 : wc.cell? ⟨gb142, 1, none⟩ = some (.int .i64 t136) := (blk_cell BK142.out 1).trans rfl
                                have hcz46_2 : wc.cell? ⟨gb142, 2, none⟩ = some (.int .u32 t137) := (blk_cell BK142.out 2).trans rfl
                                have hcz46_3 : wc.cell? ⟨gb142, 3, none⟩ = some (.int .u32 t138) := (blk_cell BK142.out 3).trans rfl
                                have hcz46_4 : wc.cell? ⟨gb142, 4, none⟩ = some (.int .u32 t139) := (blk_cell BK142.out 4).trans rfl
                                have hcz46_5 : wc.cell? ⟨gb142, 5, none⟩ = some (.string t140) := (blk_cell BK142.out 5).trans rfl
                                have hfz46_0 := blk_frozen BK142.out 0
                                have hfz46_1 := blk_frozen BK142.out 1
                                have hfz46_2 := blk_frozen BK142.out 2
                                have hfz46_3 := blk_frozen BK142.out 3
                                have hfz46_4 := blk_frozen BK142.out 4
                                have hfz46_5 := blk_frozen BK142.out 5
                                go_wp2
                                repeat (go_quiet (fail); try go_wp2)
                                go_ret2
                                exact ⟨by first | rfl | (simp [errW_none, errW_some] <;> rfl) | (simp [*, errW_none, errW_some] <;> rfl), by repeat (first | (with_reducible first | exact HB.out | apply below_alloc | apply pw_below_drewN | apply below_drew1 | refine below_set ?_ GE134.out | refine below_set ?_ GE142.out) | exact HB.out)⟩
                              · rw [if_neg c44] at H
                                have c44b0 : (t136 == 6) = false := beq_eq_false_iff_ne.mpr c44
                                have c44b1 : (t136 != 6) = true := bne_iff_ne.mpr c44
                                simp only [Option.some.injEq, Prod.mk.injEq] at H
                                obtain ⟨rfl, rfl⟩ := H
                                have hnb47 := NB142_134.out
                                have hnc47 := NB134_142.out
                                have hcz48_0 : wc.cell? ⟨gb142, 0, none⟩ = some (.int .i64 t135) := (blk_cell BK142.out 0).trans rfl
                                have hcz48_1 : wc.cell? ⟨gb142, 1, none⟩ = some (.int .i64 t136) := (blk_cell BK142.out 1).trans rfl
                                have hcz48_2 : wc.cell? ⟨gb142, 2, none⟩ = some (.int .u32 t137) := (blk_cell BK142.out 2).trans rfl
                                have hcz48_3 : wc.cell? ⟨gb142, 3, none⟩ = some (.int .u32 t138) := (blk_cell BK142.out 3).trans rfl
                                have hcz48_4 : wc.cell? ⟨gb142, 4, none⟩ = some (.int .u32 t139) := (blk_cell BK142.out 4).trans rfl
                                have hcz48_5 : wc.cell? ⟨gb142, 5, none⟩ = some (.string t140) := (blk_cell BK142.out 5).trans rfl
                                have hfz48_0 := blk_frozen BK142.out 0
                                have hfz48_1 := blk_frozen BK142.out 1
                                have hfz48_2 := blk_frozen BK142.out 2
                                have hfz48_3 := blk_frozen BK142.out 3
                                have hfz48_4 := blk_frozen BK142.out 4
                                have hfz48_5 := blk_frozen BK142.out 5
                                go_wp2
                                repeat (go_quiet (fail); try go_wp2)
                                go_ret2
                                exact ⟨by first | rfl | (simp [errW_none, errW_some] <;> rfl) | (simp [*, errW_none, errW_some] <;> rfl), by repeat (first | (with_reducible first | exact HB.out | apply below_alloc | apply pw_below_drewN | apply below_drew1 | refine below_set ?_ GE134.out | refine below_set ?_ GE142.out) | exact HB.out)⟩
                            · replace c43 := Bool.eq_false_iff.mpr c43
                              subst c43
                              have H1 : (if t136 = 6 then (some (Go.bits .or .u32 x13_32 ((t139 * 33554432) % 4294967296), 0)) else (some (x13_32, 0))) = some (r1, r2) := by rw [if_neg (show ¬ (false = true) by decide)] at H; exact H
                              clear H
                              have H := H1
                              clear H1
                              by_cases c49 : t136 = 6
                              · rw [if_pos c49] at H
                                have c49b0 : (t136 == 6) = true := beq_iff_eq.mpr c49
                                have c49b1 : (t136 != 6) = false := bne_eq_false_iff_eq.mpr c49
                                clear c49
                                simp only [Option.some.injEq, Prod.mk.injEq] at H
                                obtain ⟨rfl, rfl⟩ := H
                                have hnb50 := NB142_134.out
                                have hnc50 := NB134_142.out
                                have hcz51_0 : wc.cell? ⟨gb142, 0, none⟩ = some (.int .i64 t135) := (blk_cell BK142.out 0).trans rfl
                                have hcz51_1 : wc.cell? ⟨gb142, 1, none⟩ = some (.int .i64 t136) := (blk_cell BK142.out 1).trans rfl
                                have hcz51_2 : wc.cell? ⟨gb142, 2, none⟩ = some (.int .u32 t137) := (blk_cell BK142.out 2).trans rfl
                                have hcz51_3 : wc.cell? ⟨gb142, 3, none⟩ = some (.int .u32 t138) := (blk_cell BK142.out 3).trans rfl
                                have hcz51_4 : wc.cell? ⟨gb142, 4, none⟩ = some (.int .u32 t139) := (blk_cell BK142.out 4).trans rfl
                                have hcz51_5 : wc.cell? ⟨gb142, 5, none⟩ = some (.string t140) := (blk_cell BK142.out 5).trans rfl
                                have hfz51_0 := blk_frozen BK142.out 0
                                have hfz51_1 := blk_frozen BK142.out 1
                                have hfz51_2 := blk_frozen BK142.out 2
                                have hfz51_3 := blk_frozen BK142.out 3
                                have hfz51_4 := blk_frozen BK142.out 4
                                have hfz51_5 := blk_frozen BK142.out 5
                                go_wp2
                                repeat (go_quiet (fail); try go_wp2)
                                go_ret2
                                exact ⟨by first | rfl | (simp [errW_none, errW_some] <;> rfl) | (simp [*, errW_none, errW_some] <;> rfl), by repeat (first | (with_reducible first | exact HB.out | apply below_alloc | apply pw_below_drewN | apply below_drew1 | refine below_set ?_ GE134.out | refine below_set ?_ GE142.out) | exact HB.out)⟩
                              · rw [if_neg c49] at H
                                have c49b0 : (t136 == 6) = false := beq_eq_false_iff_ne.mpr c49
                                have c49b1 : (t136 != 6) = true := bne_iff_ne.mpr c49
                                simp only [Option.some.injEq, Prod.mk.injEq] at H
                                obtain ⟨rfl, rfl⟩ := H
                                have hnb52 := NB142_134.out
                                have hnc52 := NB134_142.out
                                have hcz53_0 : wc.cell? ⟨gb142, 0, none⟩ = some (.int .i64 t135) := (blk_cell BK142.out 0).trans rfl
                                have hcz53_1 : wc.cell? ⟨gb142, 1, none⟩ = some (.int .i64 t136) := (blk_cell BK142.out 1).trans rfl
                                have hcz53_2 : wc.cell? ⟨gb142, 2, none⟩ = some (.int .u32 t137) := (blk_cell BK142.out 2).trans rfl
                                have hcz53_3 : wc.cell? ⟨gb142, 3, none⟩ = some (.int .u32 t138) := (blk_cell BK142.out 3).trans rfl
                                have hcz53_4 : wc.cell? ⟨gb142, 4, none⟩ = some (.int .u32 t139) := (blk_cell BK142.out 4).trans rfl
                                have hcz53_5 : wc.cell? ⟨gb142, 5, none⟩ = some (.string t140) := (blk_cell BK142.out 5).trans rfl
                                have hfz53_0 := blk_frozen BK142.out 0
                                have hfz53_1 := blk_frozen BK142.out 1
                                have hfz53_2 := blk_frozen BK142.out 2
                                have hfz53_3 := blk_frozen BK142.out 3
                                have hfz53_4 := blk_frozen BK142.out 4
                                have hfz53_5 := blk_frozen BK142.out 5
                                go_wp2
                                repeat (go_quiet (fail); try go_wp2)
                                go_ret2
                                exact ⟨by first | rfl | (simp [errW_none, errW_some] <;> rfl) | (simp [*, errW_none, errW_some] <;> rfl), by repeat (first | (with_reducible first | exact HB.out | apply below_alloc | apply pw_below_drewN | apply below_drew1 | refine below_set ?_ GE134.out | refine below_set ?_ GE142.out) | exact HB.out)⟩
          · replace c20 := Bool.eq_false_iff.mpr c20
            subst c20
            have H1 : (some (0, 152)) = some (r1, r2) := by rw [if_neg (show ¬ (false = true) by decide)] at H; exact H
            clear H
            have H := H1
            clear H1
            simp only [Option.some.injEq, Prod.mk.injEq] at H
            obtain ⟨rfl, rfl⟩ := H
            have hnb54 := NB142_134.out
            have hnc54 := NB134_142.out
            have hcz55_0 : wc.cell? ⟨gb142, 0, none⟩ = some (.int .i64 t135) := (blk_cell BK142.out 0).trans rfl
            have hcz55_1 : wc.cell? ⟨gb142, 1, none⟩ = some (.int .i64 t136) := (blk_cell BK142.out 1).trans rfl
            have hcz55_2 : wc.cell? ⟨gb142, 2, none⟩ = some (.int .u32 t137) := (blk_cell BK142.out 2).trans rfl
            have hcz55_3 : wc.cell? ⟨gb142, 3, none⟩ = some (.int .u32 t138) := (blk_cell BK142.out 3).trans rfl
            have hcz55_4 : wc.cell? ⟨gb142, 4, none⟩ = some (.int .u32 t139) := (blk_cell BK142.out 4).trans rfl
            have hcz55_5 : wc.cell? ⟨gb142, 5, none⟩ = some (.string t140) := (blk_cell BK142.out 5).trans rfl
            have hfz55_0 := blk_frozen BK142.out 0
            have hfz55_1 := blk_frozen BK142.out 1
            have hfz55_2 := blk_frozen BK142.out 2
            have hfz55_3 := blk_frozen BK142.out 3
            have hfz55_4 := blk_frozen BK142.out 4
            have hfz55_5 := blk_frozen BK142.out 5
            have hcz56_0 : wc.cell? ⟨gb134, 0, none⟩ = some (.int .i64 a0_0) := (blk_cell BK134.out 0).trans rfl
            have hcz56_1 : wc.cell? ⟨gb134, 1, none⟩ = some (.int .i64 a0_1) := (blk_cell BK134.out 1).trans rfl
            have hcz56_2 : wc.cell? ⟨gb134, 2, none⟩ = some (.int .i64 a0_2) := (blk_cell BK134.out 2).trans rfl
            have hcz56_3 : wc.cell? ⟨gb134, 3, none⟩ = some (.int .i64 a0_3) := (blk_cell BK134.out 3).trans rfl
            have hcz56_4 : wc.cell? ⟨gb134, 4, none⟩ = some (.int .i64 a0_4) := (blk_cell BK134.out 4).trans rfl
            have hfz56_0 := blk_frozen BK134.out 0
            have hfz56_1 := blk_frozen BK134.out 1
            have hfz56_2 := blk_frozen BK134.out 2
            have hfz56_3 := blk_frozen BK134.out 3
            have hfz56_4 := blk_frozen BK134.out 4
            go_wp2_with (first | (go_at_call 31; (with_reducible refine (ravelinref15_imm.calls kj7 t136 a0_4 false _ A19.out).mono ?_); rintro e w' ⟨rfl, ⟨nd, rfl⟩⟩; (try first | exact ⟨rfl, _, World.drewN_drewN _ _ _⟩ | exact ⟨rfl, _, Eq.trans (World.drewN_drewN _ _ _) (congrArg (World.drewN _) (Nat.add_assoc _ _ _))⟩)))
            repeat (go_quiet (first | (go_at_call 31; (with_reducible refine (ravelinref15_imm.calls kj7 t136 a0_4 false _ A19.out).mono ?_); rintro e w' ⟨rfl, ⟨nd, rfl⟩⟩; (try first | exact ⟨rfl, _, World.drewN_drewN _ _ _⟩ | exact ⟨rfl, _, Eq.trans (World.drewN_drewN _ _ _) (congrArg (World.drewN _) (Nat.add_assoc _ _ _))⟩))); try go_wp2_with (first | (go_at_call 31; (with_reducible refine (ravelinref15_imm.calls kj7 t136 a0_4 false _ A19.out).mono ?_); rintro e w' ⟨rfl, ⟨nd, rfl⟩⟩; (try first | exact ⟨rfl, _, World.drewN_drewN _ _ _⟩ | exact ⟨rfl, _, Eq.trans (World.drewN_drewN _ _ _) (congrArg (World.drewN _) (Nat.add_assoc _ _ _))⟩))))
            go_ret2
            exact ⟨by first | rfl | (simp [errW_none, errW_some] <;> rfl) | (simp [*, errW_none, errW_some] <;> rfl), by repeat (first | (with_reducible first | exact HB.out | apply below_alloc | apply pw_below_drewN | apply below_drew1 | refine below_set ?_ GE134.out | refine below_set ?_ GE142.out) | exact HB.out)⟩
  · replace c3 := Bool.eq_false_iff.mpr c3
    subst c3
    have H1 : (some (0, 153)) = some (r1, r2) := by rw [if_neg (show ¬ (false = true) by decide)] at H; exact H
    clear H
    have H := H1
    clear H1
    simp only [Option.some.injEq, Prod.mk.injEq] at H
    obtain ⟨rfl, rfl⟩ := H
    go_enter Tryz.func17, Tryz.ntmps17
    go_wp2_with (first | ((with_reducible refine gate_dst (N := 1) rfl ?_); refine box_event ?hg (N := 1) ?hd (cs := #[.int .i64 a0_0, .int .i64 a0_1, .int .i64 a0_2, .int .i64 a0_3, .int .i64 a0_4]) (t := 42) ?hr ?_; (case hd => rfl); (case hg => rfl); (case hr => first | (go_simp; done) | (go_simp; rfl)); intro gb134 hg w57 hbox hb; have n0_ := Aside0.mk (below_step (by repeat (first | (with_reducible first | exact HB.out | apply below_alloc | apply pw_below_drewN | apply below_drew1) | exact HB.out)) hb); have n1_ := Aside0.mk (hbox); have n2_ := Aside0.mk ((by rw [hg]; exact (below_size (by repeat (first | (with_reducible first | exact HB.out | apply below_alloc | apply pw_below_drewN | apply below_drew1) | exact HB.out))) : w.heap.size ≤ gb134)); have n3_ := Aside0.mk ((by rw [hg]; exact (below_size (by repeat (first | (with_reducible first | exact HB.out | apply below_alloc | apply pw_below_drewN | apply below_drew1) | exact HB.out))) : w.heap.size ≤ gb134)); clear HB; have HB := n0_; have BK134 := n1_; have GW134 := n2_; have GE134 := n3_; clear n0_ n1_ n2_ n3_; clear hb hbox hg; have hcz58_0 : w57.cell? ⟨gb134, 0, none⟩ = some (.int .i64 a0_0) := (blk_cell BK134.out 0).trans rfl; have hcz58_1 : w57.cell? ⟨gb134, 1, none⟩ = some (.int .i64 a0_1) := (blk_cell BK134.out 1).trans rfl; have hcz58_2 : w57.cell? ⟨gb134, 2, none⟩ = some (.int .i64 a0_2) := (blk_cell BK134.out 2).trans rfl; have hcz58_3 : w57.cell? ⟨gb134, 3, none⟩ = some (.int .i64 a0_3) := (blk_cell BK134.out 3).trans rfl; have hcz58_4 : w57.cell? ⟨gb134, 4, none⟩ = some (.int .i64 a0_4) := (blk_cell BK134.out 4).trans rfl; have hfz58_0 := blk_frozen BK134.out 0; have hfz58_1 := blk_frozen BK134.out 1; have hfz58_2 := blk_frozen BK134.out 2; have hfz58_3 := blk_frozen BK134.out 3; have hfz58_4 := blk_frozen BK134.out 4) | (go_at_call 28; (with_reducible refine (ravelinref15_Find.calls k a0_0 t135 t136 t137 t138 t139 t140 false _ A2.out).mono ?_); rintro e w59 ⟨rfl, hb⟩; have n0_ := Aside0.mk (blk_below (g := gb134) (o := .cells #[.int .i64 a0_0, .int .i64 a0_1, .int .i64 a0_2, .int .i64 a0_3, .int .i64 a0_4] 42 (0, 0)) (by (with_reducible repeat (first | refine blk_drewN ?_ _ | refine blk_drew ?_ | refine blk_alloc ?_ _)); exact BK134.out) hb); have n1_ := Aside0.mk (below_step (by repeat (first | (with_reducible first | exact HB.out | apply below_alloc | apply pw_below_drewN | apply below_drew1 | refine below_set ?_ GE134.out) | exact HB.out)) hb); clear BK134; clear HB; have BK134 := n0_; have HB := n1_; clear n0_ n1_; (try clear hb); (try clear hb2); (try clear hk); (try clear hi)) | ((with_reducible refine gate_dst (N := 4) rfl ?_); refine box_event ?hg (N := 4) ?hd (cs := #[.int .i64 0, .int .i64 0, .int .u32 0, .int .u32 0, .int .u32 0, .string (⟨#[]⟩ : ByteArray)]) (t := 59) ?hr ?_; (case hd => rfl); (case hg => rfl); (case hr => first | (go_simp; done) | (go_simp; rfl)); intro gb142 hg w60 hbox hb; have n0_ := Aside0.mk (blk_below (g := gb134) (o := .cells #[.int .i64 a0_0, .int .i64 a0_1, .int .i64 a0_2, .int .i64 a0_3, .int .i64 a0_4] 42 (0, 0)) (by (with_reducible repeat (first | refine blk_drewN ?_ _ | refine blk_drew ?_ | refine blk_alloc ?_ _)); exact BK134.out) hb); have n1_ := Aside0.mk (below_step (by repeat (first | (with_reducible first | exact HB.out | apply below_alloc | apply pw_below_drewN | apply below_drew1 | refine below_set ?_ GE134.out) | exact HB.out)) hb); have n2_ := Aside0.mk (hbox); have n3_ := Aside0.mk ((by rw [hg]; exact (below_size (by repeat (first | (with_reducible first | exact HB.out | apply below_alloc | apply pw_below_drewN | apply below_drew1 | refine below_set ?_ GE134.out) | exact HB.out))) : w.heap.size ≤ gb142)); have n4_ := Aside0.mk ((by rw [hg]; exact (below_size (by repeat (first | (with_reducible first | exact HB.out | apply below_alloc | apply pw_below_drewN | apply below_drew1 | refine below_set ?_ GE134.out) | exact HB.out))) : w.heap.size ≤ gb142)); have n5_ := Aside0.mk ((by rw [hg]; exact Nat.ne_of_lt (blk_lt (g := gb134) (o := .cells #[.int .i64 a0_0, .int .i64 a0_1, .int .i64 a0_2, .int .i64 a0_3, .int .i64 a0_4] 42 (0, 0)) (by (with_reducible repeat (first | refine blk_drewN ?_ _ | refine blk_drew ?_ | refine blk_alloc ?_ _)); exact BK134.out)) : gb134 ≠ gb142)); have n6_ := Aside0.mk ((by rw [hg]; exact Nat.ne_of_gt (blk_lt (g := gb134) (o := .cells #[.int .i64 a0_0, .int .i64 a0_1, .int .i64 a0_2, .int .i64 a0_3, .int .i64 a0_4] 42 (0, 0)) (by (with_reducible repeat (first | refine blk_drewN ?_ _ | refine blk_drew ?_ | refine blk_alloc ?_ _)); exact BK134.out)) : gb142 ≠ gb134)); clear BK134; clear HB; have BK134 := n0_; have HB := n1_; have BK142 := n2_; have GW142 := n3_; have GE142 := n4_; have NB134_142 := n5_; have NB142_134 := n6_; clear n0_ n1_ n2_ n3_ n4_ n5_ n6_; clear hb hbox hg; have hnb61 := NB142_134.out; have hnc61 := NB134_142.out; have hcz62_0 : w60.cell? ⟨gb142, 0, none⟩ = some (.int .i64 0) := (blk_cell BK142.out 0).trans rfl; have hcz62_1 : w60.cell? ⟨gb142, 1, none⟩ = some (.int .i64 0) := (blk_cell BK142.out 1).trans rfl; have hcz62_2 : w60.cell? ⟨gb142, 2, none⟩ = some (.int .u32 0) := (blk_cell BK142.out 2).trans rfl; have hcz62_3 : w60.cell? ⟨gb142, 3, none⟩ = some (.int .u32 0) := (blk_cell BK142.out 3).trans rfl; have hcz62_4 : w60.cell? ⟨gb142, 4, none⟩ = some (.int .u32 0) := (blk_cell BK142.out 4).trans rfl; have hcz62_5 : w60.cell? ⟨gb142, 5, none⟩ = some (.string (⟨#[]⟩ : ByteArray)) := (blk_cell BK142.out 5).trans rfl; have hfz62_0 := blk_frozen BK142.out 0; have hfz62_1 := blk_frozen BK142.out 1; have hfz62_2 := blk_frozen BK142.out 2; have hfz62_3 := blk_frozen BK142.out 3; have hfz62_4 := blk_frozen BK142.out 4; have hfz62_5 := blk_frozen BK142.out 5))
    repeat (go_quiet (fail); try go_wp2)
    go_ret2
    exact ⟨by first | rfl | (simp [errW_none, errW_some] <;> rfl) | (simp [*, errW_none, errW_some] <;> rfl), by repeat (first | (with_reducible first | exact HB.out | apply below_alloc | apply pw_below_drewN | apply below_drew1 | refine below_set ?_ GE134.out | refine below_set ?_ GE142.out) | exact HB.out)⟩
end Go.Proofs.YtcgkgaibomcheaaGreat.PRvemuRuns
end
