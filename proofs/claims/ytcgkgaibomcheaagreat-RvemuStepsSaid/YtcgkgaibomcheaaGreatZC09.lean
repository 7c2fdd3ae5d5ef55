/- Joined out of this claim's texts: RDoes2, Mac, Reg, StoreExact, Rd. Conditions: those of each theorem. -/
import Derived.Test.YtcgkgaibomcheaaGreatZC01
import Derived.Test.YtcgkgaibomcheaaGreatZC08
import Derived.StillTailTactics
import Derived.Test.YtcgkgaibomcheaaGreatZC03
import Derived.Test.YtcgkgaibomcheaaGreatZC07
import Derived.Test.YtcgkgaibomcheaaGreatZC04
import Derived.Lib.SliceRun
set_option linter.unusedVariables false
set_option linter.unusedSimpArgs false
section
namespace Go.Proofs.YtcgkgaibomcheaaGreat.RDoes2
open Go.RowKit Bits Mb Ends RTwo ROne PRvemuRuns YtcgkgaibomcheaaGreatW.PrintWords YtcgkgaibomcheaaGreatW.PrintLast YtcgkgaibomcheaaGreatW.PrintMore
def nextPc (q : Bool) (pc k : BitVec 64) : BitVec 64 := if q = true then pc + k else pc + 4#64
set_option maxRecDepth 20000 in
set_option maxHeartbeats 2000000 in
theorem does_B (g : Nat) (v : Nat → Value) (op rd r1 r2 : Nat) (imm : Int) (pc a b : BitVec 64) (w : World) (h : MB 76 41 w g v) (hp : v 35 = .int .u64 (U pc)) (hrd : rd < 32) (hr1 : r1 < 32) (hr2 : r2 < 32) (ha : v (3 + r1) = .int .u64 (U a)) (hb : v (3 + r2) = .int .u64 (U b)) (ho1 : 29 ≤ op) (ho2 : op ≤ 32) (row : S59) (hrow : ravelinref15_Find.f 40 (op : Int) = some (row.f0, row.f1, row.f2, row.f3, row.f4, row.f5, true)) (hform : row.f1 = 7) :
    Calls Tryz.prog 45 #[.pointer (some ⟨g, 0, none⟩), .agg #[.int .i64 op, .int .i64 rd, .int .i64 r1, .int .i64 r2, .int .i64 imm]] w fun e w' => e = .returned (.tuple #[.int .u64 (U (nextPc (RTwo.ask op a b) pc (BitVec.ofInt 64 imm))), .int .i64 0]) ∧ MB 76 41 w' g v ∧ Only g w w' := by
  obtain ⟨f0, f1, f2, f3, f4, f5⟩ := row
  replace hform : f1 = 7 := hform
  subst hform
  replace hrow : ravelinref15_Find.f 40 (op : Int) = some (f0, 7, f2, f3, f4, f5, true) := hrow
  have HB := Aside0.mk (below_alloc (Below.refl w.heap.size w) (.cells #[.int .i64 op, .int .i64 rd, .int .i64 r1, .int .i64 r2, .int .i64 imm] 42))
  have HX := Aside0.mk (blk_new w (.cells #[.int .i64 op, .int .i64 rd, .int .i64 r1, .int .i64 r2, .int .i64 imm] 42))
  have HM := Aside0.mk (h.below HB.out)
  have HP := Aside0.mk hp
  have HF := Aside0.mk hrow
  clear h hp hrow
  go_enter Tryz.func45, Tryz.ntmps45
  go_wp2_with fail
  obtain ⟨W, hW⟩ : ∃ W, W = w.alloc (.cells #[.int .i64 op, .int .i64 rd, .int .i64 r1, .int .i64 r2, .int .i64 imm] 42) := ⟨_, rfl⟩
  rw [← hW] at HB HX HM ⊢
  clear hW
  have x2 := blk_cell HX.out 2
  have y1 := (HM.out.cell (3 + r1) (by omega)).trans (congrArg some ha)
  simp only [List.getElem?_toArray, List.getElem?_cons_zero, List.getElem?_cons_succ] at x2
  have q0 : (0 : Int) ≤ (r1 : Int) := by omega
  have q1 : (r1 : Int) < 32 := by omega
  have q2 : (0 : Int) ≤ (r2 : Int) := by omega
  have q3 : (r2 : Int) < 32 := by omega
  go_quiet (fail)
  have HB2 := Aside0.mk (pw_below_drewN HB.out nq)
  have HX2 := Aside0.mk (blk_drewN HX.out nq)
  have HM2 := Aside0.mk (show MB 76 41 (W.drewN nq) g v from HM.out.of rfl)
  generalize W.drewN nq = W2 at HB2 HX2 HM2 ⊢
  clear HB HX HM x2 y1
  have x3 := blk_cell HX2.out 3
  have y2 := (HM2.out.cell (3 + r2) (by omega)).trans (congrArg some hb)
  simp only [List.getElem?_toArray, List.getElem?_cons_zero, List.getElem?_cons_succ] at x3
  go_wp2_with fail
  go_quiet (fail)
  have HB3 := Aside0.mk (pw_below_drewN HB2.out nq)
  have HX3 := Aside0.mk (blk_drewN HX2.out nq)
  have HM3 := Aside0.mk (show MB 76 41 (W2.drewN nq) g v from HM2.out.of rfl)
  generalize W2.drewN nq = W3 at HB3 HX3 HM3 ⊢
  clear HB2 HX2 HM2 x3 y2
  have x0 := blk_cell HX3.out 0
  have x4 := blk_cell HX3.out 4
  simp only [List.getElem?_toArray, List.getElem?_cons_zero, List.getElem?_cons_succ] at x0 x4
  have hk := wrapU imm
  go_wp2_with fail
  refine (ravelinref15_Find.calls 40 op f0 7 f2 f3 f4 f5 true _ HF.out).mono ?_
  rintro e w4 ⟨rfl, hb4⟩
  have HB4 := Aside0.mk (below_alloc (below_step HB3.out hb4) (.cells #[.int .i64 f0, .int .i64 7, .int .u32 f2, .int .u32 f3, .int .u32 f4, .string f5] 59))
  have HX4 := Aside0.mk (blk_alloc (blk_below HX3.out hb4) (.cells #[.int .i64 f0, .int .i64 7, .int .u32 f2, .int .u32 f3, .int .u32 f4, .string f5] 59))
  have HM4 := Aside0.mk ((HM3.out.below hb4).below (below_alloc (Below.refl w4.heap.size w4) (.cells #[.int .i64 f0, .int .i64 7, .int .u32 f2, .int .u32 f3, .int .u32 f4, .string f5] 59)))
  have z1 := blk_cell (blk_new w4 (.cells #[.int .i64 f0, .int .i64 7, .int .u32 f2, .int .u32 f3, .int .u32 f4, .string f5] 59)) 1
  have x0 := blk_cell HX4.out 0
  have x1 := blk_cell HX4.out 1
  simp only [List.getElem?_toArray, List.getElem?_cons_zero, List.getElem?_cons_succ] at x0 x1 z1
  clear hb4 HB3 HX3 HM3 HF x4 hk
  go_wp2_with fail
  clear x0 z1
  have HA := Aside0.mk (asks_eq op ho1 ho2 a b)
  obtain ⟨q, hq⟩ : ∃ q, RTwo.ask op a b = q := ⟨_, rfl⟩
  rw [hq] at HA
  refine (ravelinref16_asks.calls op (U a) (U b) q _ HA.out).mono ?_
  rintro e w6 ⟨rfl, hd⟩
  have HM6 := Aside0.mk (HM4.out.below hd.below)
  have HO6 := Aside0.mk ((Only.refl g w).below (below_step HB4.out hd.below))
  have c35 := (HM6.out.cell 35 (by omega)).trans (congrArg some HP.out)
  have h4 : IntKind.u64.wrap (U pc + 4) = U (pc + 4#64) := Alu.addU pc 4#64
  have hk5 := Alu.addU pc (BitVec.ofInt 64 imm)
  have HQ := Aside0.mk hq
  clear hd HB4 HM4 HX4 x1 hq HA
  cases q
  · go_wp2
    go_ret2
    rw [HQ.out]
    exact ⟨rfl, HM6.out, HO6.out⟩
  · go_wp2
    go_ret2
    rw [HQ.out]
    exact ⟨rfl, HM6.out, HO6.out⟩
set_option maxRecDepth 20000 in
set_option maxHeartbeats 2000000 in
theorem does_J (g : Nat) (v : Nat → Value) (op rd r1 r2 : Nat) (imm : Int) (pc a b : BitVec 64) (w : World) (h : MB 76 41 w g v) (hp : v 35 = .int .u64 (U pc)) (hrd : rd < 32) (hr1 : r1 < 32) (hr2 : r2 < 32) (ha : v (3 + r1) = .int .u64 (U a)) (hb : v (3 + r2) = .int .u64 (U b)) (ho1 : 33 ≤ op) (ho2 : op ≤ 33) (row : S59) (hrow : ravelinref15_Find.f 40 (op : Int) = some (row.f0, row.f1, row.f2, row.f3, row.f4, row.f5, true)) (hform : row.f1 = 8) :
    Calls Tryz.prog 45 #[.pointer (some ⟨g, 0, none⟩), .agg #[.int .i64 op, .int .i64 rd, .int .i64 r1, .int .i64 r2, .int .i64 imm]] w fun e w' => e = .returned (.tuple #[.int .u64 (U (pc + BitVec.ofInt 64 imm)), .int .i64 0]) ∧ MB 76 41 w' g (reg v rd (pc + 4#64)) ∧ Only g w w' := by
  obtain ⟨f0, f1, f2, f3, f4, f5⟩ := row
  replace hform : f1 = 8 := hform
  subst hform
  replace hrow : ravelinref15_Find.f 40 (op : Int) = some (f0, 8, f2, f3, f4, f5, true) := hrow
  have HB := Aside0.mk (below_alloc (Below.refl w.heap.size w) (.cells #[.int .i64 op, .int .i64 rd, .int .i64 r1, .int .i64 r2, .int .i64 imm] 42))
  have HX := Aside0.mk (blk_new w (.cells #[.int .i64 op, .int .i64 rd, .int .i64 r1, .int .i64 r2, .int .i64 imm] 42))
  have HM := Aside0.mk (h.below HB.out)
  have HP := Aside0.mk hp
  have HF := Aside0.mk hrow
  clear h hp hrow
  go_enter Tryz.func45, Tryz.ntmps45
  go_wp2_with fail
  obtain ⟨W, hW⟩ : ∃ W, W = w.alloc (.cells #[.int .i64 op, .int .i64 rd, .int .i64 r1, .int .i64 r2, .int .i64 imm] 42) := ⟨_, rfl⟩
  rw [← hW] at HB HX HM ⊢
  clear hW
  have x2 := blk_cell HX.out 2
  have y1 := (HM.out.cell (3 + r1) (by omega)).trans (congrArg some ha)
  simp only [List.getElem?_toArray, List.getElem?_cons_zero, List.getElem?_cons_succ] at x2
  have q0 : (0 : Int) ≤ (r1 : Int) := by omega
  have q1 : (r1 : Int) < 32 := by omega
  have q2 : (0 : Int) ≤ (r2 : Int) := by omega
  have q3 : (r2 : Int) < 32 := by omega
  go_quiet (fail)
  have HB2 := Aside0.mk (pw_below_drewN HB.out nq)
  have HX2 := Aside0.mk (blk_drewN HX.out nq)
  have HM2 := Aside0.mk (show MB 76 41 (W.drewN nq) g v from HM.out.of rfl)
  generalize W.drewN nq = W2 at HB2 HX2 HM2 ⊢
  clear HB HX HM x2 y1
  have x3 := blk_cell HX2.out 3
  have y2 := (HM2.out.cell (3 + r2) (by omega)).trans (congrArg some hb)
  simp only [List.getElem?_toArray, List.getElem?_cons_zero, List.getElem?_cons_succ] at x3
  go_wp2_with fail
  go_quiet (fail)
  have HB3 := Aside0.mk (pw_below_drewN HB2.out nq)
  have HX3 := Aside0.mk (blk_drewN HX2.out nq)
  have HM3 := Aside0.mk (show MB 76 41 (W2.drewN nq) g v from HM2.out.of rfl)
  generalize W2.drewN nq = W3 at HB3 HX3 HM3 ⊢
  clear HB2 HX2 HM2 x3 y2
  have x0 := blk_cell HX3.out 0
  have x4 := blk_cell HX3.out 4
  simp only [List.getElem?_toArray, List.getElem?_cons_zero, List.getElem?_cons_succ] at x0 x4
  have hk := wrapU imm
  go_wp2_with fail
  refine (ravelinref15_Find.calls 40 op f0 8 f2 f3 f4 f5 true _ HF.out).mono ?_
  rintro e w4 ⟨rfl, hb4⟩
  have HB4 := Aside0.mk (below_alloc (below_step HB3.out hb4) (.cells #[.int .i64 f0, .int .i64 8, .int .u32 f2, .int .u32 f3, .int .u32 f4, .string f5] 59))
  have HX4 := Aside0.mk (blk_alloc (blk_below HX3.out hb4) (.cells #[.int .i64 f0, .int .i64 8, .int .u32 f2, .int .u32 f3, .int .u32 f4, .string f5] 59))
  have HM4 := Aside0.mk ((HM3.out.below hb4).below (below_alloc (Below.refl w4.heap.size w4) (.cells #[.int .i64 f0, .int .i64 8, .int .u32 f2, .int .u32 f3, .int .u32 f4, .string f5] 59)))
  have z1 := blk_cell (blk_new w4 (.cells #[.int .i64 f0, .int .i64 8, .int .u32 f2, .int .u32 f3, .int .u32 f4, .string f5] 59)) 1
  have x0 := blk_cell HX4.out 0
  have x1 := blk_cell HX4.out 1
  simp only [List.getElem?_toArray, List.getElem?_cons_zero, List.getElem?_cons_succ] at x0 x1 z1
  clear hb4 HB3 HX3 HM3 HF x4 hk
  have c35 := (HM4.out.cell 35 (by omega)).trans (congrArg some HP.out)
  have h4 : IntKind.u64.wrap (U pc + 4) = U (pc + 4#64) := Alu.addU pc 4#64
  have hk5 := Alu.addU pc (BitVec.ofInt 64 imm)
  go_wp2_with fail
  obtain ⟨W, hW⟩ : ∃ W, W = w4.alloc (.cells #[.int .i64 f0, .int .i64 8, .int .u32 f2, .int .u32 f3, .int .u32 f4, .string f5] 59) := ⟨_, rfl⟩
  rw [← hW] at HB4 HM4 HX4 x1 x0 c35 ⊢
  clear hW z1 x0
  go_still_tail 8, (by kernel_rfl)
  change wpList _ _ _ _ _ W.drew
  clear x1 c35
  go_wp2_with fail
  refine (set_ g v rd (pc + 4#64) W.drew (HM4.out.of rfl) hrd).mono ?_
  rintro e w7 ⟨rfl, hm, ho⟩
  have HM7 := Aside0.mk (show MB 76 41 w7 g (reg v rd (pc + 4#64)) from hm)
  have HO7 := Aside0.mk (((Only.refl g w).below (below_drew HB4.out)).then_ ho)
  clear hm ho
  go_wp2
  go_ret2
  exact ⟨rfl, HM7.out, HO7.out⟩
set_option maxRecDepth 20000 in
set_option maxHeartbeats 2000000 in
theorem does_S15 (g : Nat) (v : Nat → Value) (op rd r1 r2 : Nat) (imm : Int) (pc a b : BitVec 64) (w : World) (h : MB 76 41 w g v) (hp : v 35 = .int .u64 (U pc)) (hrd : rd < 32) (hr1 : r1 < 32) (hr2 : r2 < 32) (ha : v (3 + r1) = .int .u64 (U a)) (hb : v (3 + r2) = .int .u64 (U b)) (ho1 : 15 ≤ op) (ho2 : op ≤ 15) (row : S59) (hrow : ravelinref15_Find.f 40 (op : Int) = some (row.f0, row.f1, row.f2, row.f3, row.f4, row.f5, true)) (hform : row.f1 = 5) (X : World → (Nat → Value) → World → Prop) (hst : ∀ W, Below w.heap.size w W → Calls Tryz.prog 92 #[.pointer (some ⟨g, 0, none⟩), .int .u64 (U (a + BitVec.ofInt 64 imm)), .int .i64 4, .int .u64 (U b)] W fun e w' => e = .returned (.bool true) ∧ ∃ v', MB 76 41 w' g v' ∧ v' 35 = .int .u64 (U pc) ∧ X W v' w') :
    Calls Tryz.prog 45 #[.pointer (some ⟨g, 0, none⟩), .agg #[.int .i64 op, .int .i64 rd, .int .i64 r1, .int .i64 r2, .int .i64 imm]] w fun e w' => e = .returned (.tuple #[.int .u64 (U (pc + 4#64)), .int .i64 0]) ∧ ∃ W v', Below w.heap.size w W ∧ X W v' w' := by
  obtain ⟨f0, f1, f2, f3, f4, f5⟩ := row
  replace hform : f1 = 5 := hform
  subst hform
  replace hrow : ravelinref15_Find.f 40 (op : Int) = some (f0, 5, f2, f3, f4, f5, true) := hrow
  have HB := Aside0.mk (below_alloc (Below.refl w.heap.size w) (.cells #[.int .i64 op, .int .i64 rd, .int .i64 r1, .int .i64 r2, .int .i64 imm] 42))
  have HX := Aside0.mk (blk_new w (.cells #[.int .i64 op, .int .i64 rd, .int .i64 r1, .int .i64 r2, .int .i64 imm] 42))
  have HM := Aside0.mk (h.below HB.out)
  have HP := Aside0.mk hp
  have HF := Aside0.mk hrow
  have HST := Aside0.mk hst
  clear h hp hrow hst
  go_enter Tryz.func45, Tryz.ntmps45
  go_wp2_with fail
  obtain ⟨W, hW⟩ : ∃ W, W = w.alloc (.cells #[.int .i64 op, .int .i64 rd, .int .i64 r1, .int .i64 r2, .int .i64 imm] 42) := ⟨_, rfl⟩
  rw [← hW] at HB HX HM ⊢
  clear hW
  have x2 := blk_cell HX.out 2
  have y1 := (HM.out.cell (3 + r1) (by omega)).trans (congrArg some ha)
  simp only [List.getElem?_toArray, List.getElem?_cons_zero, List.getElem?_cons_succ] at x2
  have q0 : (0 : Int) ≤ (r1 : Int) := by omega
  have q1 : (r1 : Int) < 32 := by omega
  have q2 : (0 : Int) ≤ (r2 : Int) := by omega
  have q3 : (r2 : Int) < 32 := by omega
  go_quiet (fail)
  have HB2 := Aside0.mk (pw_below_drewN HB.out nq)
  have HX2 := Aside0.mk (blk_drewN HX.out nq)
  have HM2 := Aside0.mk (show MB 76 41 (W.drewN nq) g v from HM.out.of rfl)
  generalize W.drewN nq = W2 at HB2 HX2 HM2 ⊢
  clear HB HX HM x2 y1
  have x3 := blk_cell HX2.out 3
  have y2 := (HM2.out.cell (3 + r2) (by omega)).trans (congrArg some hb)
  simp only [List.getElem?_toArray, List.getElem?_cons_zero, List.getElem?_cons_succ] at x3
  go_wp2_with fail
  go_quiet (fail)
  have HB3 := Aside0.mk (pw_below_drewN HB2.out nq)
  have HX3 := Aside0.mk (blk_drewN HX2.out nq)
  have HM3 := Aside0.mk (show MB 76 41 (W2.drewN nq) g v from HM2.out.of rfl)
  generalize W2.drewN nq = W3 at HB3 HX3 HM3 ⊢
  clear HB2 HX2 HM2 x3 y2
  have x0 := blk_cell HX3.out 0
  have x4 := blk_cell HX3.out 4
  simp only [List.getElem?_toArray, List.getElem?_cons_zero, List.getElem?_cons_succ] at x0 x4
  have hk := wrapU imm
  go_wp2_with fail
  refine (ravelinref15_Find.calls 40 op f0 5 f2 f3 f4 f5 true _ HF.out).mono ?_
  rintro e w4 ⟨rfl, hb4⟩
  have HB4 := Aside0.mk (below_alloc (below_step HB3.out hb4) (.cells #[.int .i64 f0, .int .i64 5, .int .u32 f2, .int .u32 f3, .int .u32 f4, .string f5] 59))
  have HX4 := Aside0.mk (blk_alloc (blk_below HX3.out hb4) (.cells #[.int .i64 f0, .int .i64 5, .int .u32 f2, .int .u32 f3, .int .u32 f4, .string f5] 59))
  have HM4 := Aside0.mk ((HM3.out.below hb4).below (below_alloc (Below.refl w4.heap.size w4) (.cells #[.int .i64 f0, .int .i64 5, .int .u32 f2, .int .u32 f3, .int .u32 f4, .string f5] 59)))
  have z1 := blk_cell (blk_new w4 (.cells #[.int .i64 f0, .int .i64 5, .int .u32 f2, .int .u32 f3, .int .u32 f4, .string f5] 59)) 1
  have x0 := blk_cell HX4.out 0
  have x1 := blk_cell HX4.out 1
  simp only [List.getElem?_toArray, List.getElem?_cons_zero, List.getElem?_cons_succ] at x0 x1 z1
  clear hb4 HB3 HX3 HM3 HF x4 hk
  have hop : ((op : Int) == 15) = true := by simp; omega
  have hk5 := Alu.addU a (BitVec.ofInt 64 imm)
  go_wp2_with fail
  refine (HST.out _ HB4.out).mono ?_
  rintro e w6 ⟨rfl, v', hm, hp', hX⟩
  have HX6 := Aside0.mk hX
  have HBW := HB4
  have c35 := (hm.cell 35 (by omega)).trans (congrArg some hp')
  have h4 : IntKind.u64.wrap (U pc + 4) = U (pc + 4#64) := Alu.addU pc 4#64
  clear hm hX HM4 HX4 x1 x0 z1 HST
  go_wp2
  go_ret2
  exact ⟨rfl, _, v', HBW.out, HX6.out⟩
set_option maxRecDepth 20000 in
set_option maxHeartbeats 2000000 in
theorem does_S15_no (g : Nat) (v : Nat → Value) (op rd r1 r2 : Nat) (imm : Int) (pc a b : BitVec 64) (w : World) (h : MB 76 41 w g v) (hp : v 35 = .int .u64 (U pc)) (hrd : rd < 32) (hr1 : r1 < 32) (hr2 : r2 < 32) (ha : v (3 + r1) = .int .u64 (U a)) (hb : v (3 + r2) = .int .u64 (U b)) (ho1 : 15 ≤ op) (ho2 : op ≤ 15) (row : S59) (hrow : ravelinref15_Find.f 40 (op : Int) = some (row.f0, row.f1, row.f2, row.f3, row.f4, row.f5, true)) (hform : row.f1 = 5) (hst : ∀ W, Below w.heap.size w W → MB 76 41 W g v → Calls Tryz.prog 92 #[.pointer (some ⟨g, 0, none⟩), .int .u64 (U (a + BitVec.ofInt 64 imm)), .int .i64 4, .int .u64 (U b)] W fun e w' => e = .returned (.bool false) ∧ Below W.heap.size W w') :
    Calls Tryz.prog 45 #[.pointer (some ⟨g, 0, none⟩), .agg #[.int .i64 op, .int .i64 rd, .int .i64 r1, .int .i64 r2, .int .i64 imm]] w fun e w' => e = .returned (.tuple #[.int .u64 0, .int .i64 7]) ∧ MB 76 41 w' g v ∧ Only g w w' := by
  obtain ⟨f0, f1, f2, f3, f4, f5⟩ := row
  replace hform : f1 = 5 := hform
  subst hform
  replace hrow : ravelinref15_Find.f 40 (op : Int) = some (f0, 5, f2, f3, f4, f5, true) := hrow
  have HB := Aside0.mk (below_alloc (Below.refl w.heap.size w) (.cells #[.int .i64 op, .int .i64 rd, .int .i64 r1, .int .i64 r2, .int .i64 imm] 42))
  have HX := Aside0.mk (blk_new w (.cells #[.int .i64 op, .int .i64 rd, .int .i64 r1, .int .i64 r2, .int .i64 imm] 42))
  have HM := Aside0.mk (h.below HB.out)
  have HP := Aside0.mk hp
  have HF := Aside0.mk hrow
  have HST := Aside0.mk hst
  clear h hp hrow hst
  go_enter Tryz.func45, Tryz.ntmps45
  go_wp2_with fail
  obtain ⟨W, hW⟩ : ∃ W, W = w.alloc (.cells #[.int .i64 op, .int .i64 rd, .int .i64 r1, .int .i64 r2, .int .i64 imm] 42) := ⟨_, rfl⟩
  rw [← hW] at HB HX HM ⊢
  clear hW
  have x2 := blk_cell HX.out 2
  have y1 := (HM.out.cell (3 + r1) (by omega)).trans (congrArg some ha)
  simp only [List.getElem?_toArray, List.getElem?_cons_zero, List.getElem?_cons_succ] at x2
  have q0 : (0 : Int) ≤ (r1 : Int) := by omega
  have q1 : (r1 : Int) < 32 := by omega
  have q2 : (0 : Int) ≤ (r2 : Int) := by omega
  have q3 : (r2 : Int) < 32 := by omega
  go_quiet (fail)
  have HB2 := Aside0.mk (pw_below_drewN HB.out nq)
  have HX2 := Aside0.mk (blk_drewN HX.out nq)
  have HM2 := Aside0.mk (show MB 76 41 (W.drewN nq) g v from HM.out.of rfl)
  generalize W.drewN nq = W2 at HB2 HX2 HM2 ⊢
  clear HB HX HM x2 y1
  have x3 := blk_cell HX2.out 3
  have y2 := (HM2.out.cell (3 + r2) (by omega)).trans (congrArg some hb)
  simp only [List.getElem?_toArray, List.getElem?_cons_zero, List.getElem?_cons_succ] at x3
  go_wp2_with fail
  go_quiet (fail)
  have HB3 := Aside0.mk (pw_below_drewN HB2.out nq)
  have HX3 := Aside0.mk (blk_drewN HX2.out nq)
  have HM3 := Aside0.mk (show MB 76 41 (W2.drewN nq) g v from HM2.out.of rfl)
  generalize W2.drewN nq = W3 at HB3 HX3 HM3 ⊢
  clear HB2 HX2 HM2 x3 y2
  have x0 := blk_cell HX3.out 0
  have x4 := blk_cell HX3.out 4
  simp only [List.getElem?_toArray, List.getElem?_cons_zero, List.getElem?_cons_succ] at x0 x4
  have hk := wrapU imm
  go_wp2_with fail
  refine (ravelinref15_Find.calls 40 op f0 5 f2 f3 f4 f5 true _ HF.out).mono ?_
  rintro e w4 ⟨rfl, hb4⟩
  have HB4 := Aside0.mk (below_alloc (below_step HB3.out hb4) (.cells #[.int .i64 f0, .int .i64 5, .int .u32 f2, .int .u32 f3, .int .u32 f4, .string f5] 59))
  have HX4 := Aside0.mk (blk_alloc (blk_below HX3.out hb4) (.cells #[.int .i64 f0, .int .i64 5, .int .u32 f2, .int .u32 f3, .int .u32 f4, .string f5] 59))
  have HM4 := Aside0.mk ((HM3.out.below hb4).below (below_alloc (Below.refl w4.heap.size w4) (.cells #[.int .i64 f0, .int .i64 5, .int .u32 f2, .int .u32 f3, .int .u32 f4, .string f5] 59)))
  have z1 := blk_cell (blk_new w4 (.cells #[.int .i64 f0, .int .i64 5, .int .u32 f2, .int .u32 f3, .int .u32 f4, .string f5] 59)) 1
  have x0 := blk_cell HX4.out 0
  have x1 := blk_cell HX4.out 1
  simp only [List.getElem?_toArray, List.getElem?_cons_zero, List.getElem?_cons_succ] at x0 x1 z1
  clear hb4 HB3 HX3 HM3 HF x4 hk
  have hop : ((op : Int) == 15) = true := by simp; omega
  have hk5 := Alu.addU a (BitVec.ofInt 64 imm)
  go_wp2_with fail
  refine (HST.out _ HB4.out HM4.out).mono ?_
  rintro e w6 ⟨rfl, hd⟩
  have HM6 := Aside0.mk (HM4.out.below hd)
  have HO6 := Aside0.mk ((Only.refl g w).below (below_step HB4.out hd))
  clear hd HB4 HM4 HX4 x1 x0 z1 HST
  go_wp2
  go_ret2
  exact ⟨rfl, HM6.out, HO6.out⟩
set_option maxRecDepth 20000 in
set_option maxHeartbeats 2000000 in
theorem does_S14 (g : Nat) (v : Nat → Value) (op rd r1 r2 : Nat) (imm : Int) (pc a b : BitVec 64) (w : World) (h : MB 76 41 w g v) (hp : v 35 = .int .u64 (U pc)) (hrd : rd < 32) (hr1 : r1 < 32) (hr2 : r2 < 32) (ha : v (3 + r1) = .int .u64 (U a)) (hb : v (3 + r2) = .int .u64 (U b)) (ho1 : 14 ≤ op) (ho2 : op ≤ 14) (row : S59) (hrow : ravelinref15_Find.f 40 (op : Int) = some (row.f0, row.f1, row.f2, row.f3, row.f4, row.f5, true)) (hform : row.f1 = 5) (X : World → (Nat → Value) → World → Prop) (hst : ∀ W, Below w.heap.size w W → Calls Tryz.prog 92 #[.pointer (some ⟨g, 0, none⟩), .int .u64 (U (a + BitVec.ofInt 64 imm)), .int .i64 8, .int .u64 (U b)] W fun e w' => e = .returned (.bool true) ∧ ∃ v', MB 76 41 w' g v' ∧ v' 35 = .int .u64 (U pc) ∧ X W v' w') :
    Calls Tryz.prog 45 #[.pointer (some ⟨g, 0, none⟩), .agg #[.int .i64 op, .int .i64 rd, .int .i64 r1, .int .i64 r2, .int .i64 imm]] w fun e w' => e = .returned (.tuple #[.int .u64 (U (pc + 4#64)), .int .i64 0]) ∧ ∃ W v', Below w.heap.size w W ∧ X W v' w' := by
  obtain ⟨f0, f1, f2, f3, f4, f5⟩ := row
  replace hform : f1 = 5 := hform
  subst hform
  replace hrow : ravelinref15_Find.f 40 (op : Int) = some (f0, 5, f2, f3, f4, f5, true) := hrow
  have HB := Aside0.mk (below_alloc (Below.refl w.heap.size w) (.cells #[.int .i64 op, .int .i64 rd, .int .i64 r1, .int .i64 r2, .int .i64 imm] 42))
  have HX := Aside0.mk (blk_new w (.cells #[.int .i64 op, .int .i64 rd, .int .i64 r1, .int .i64 r2, .int .i64 imm] 42))
  have HM := Aside0.mk (h.below HB.out)
  have HP := Aside0.mk hp
  have HF := Aside0.mk hrow
  have HST := Aside0.mk hst
  clear h hp hrow hst
  go_enter Tryz.func45, Tryz.ntmps45
  go_wp2_with fail
  obtain ⟨W, hW⟩ : ∃ W, W = w.alloc (.cells #[.int .i64 op, .int .i64 rd, .int .i64 r1, .int .i64 r2, .int .i64 imm] 42) := ⟨_, rfl⟩
  rw [← hW] at HB HX HM ⊢
  clear hW
  have x2 := blk_cell HX.out 2
  have y1 := (HM.out.cell (3 + r1) (by omega)).trans (congrArg some ha)
  simp only [List.getElem?_toArray, List.getElem?_cons_zero, List.getElem?_cons_succ] at x2
  have q0 : (0 : Int) ≤ (r1 : Int) := by omega
  have q1 : (r1 : Int) < 32 := by omega
  have q2 : (0 : Int) ≤ (r2 : Int) := by omega
  have q3 : (r2 : Int) < 32 := by omega
  go_quiet (fail)
  have HB2 := Aside0.mk (pw_below_drewN HB.out nq)
  have HX2 := Aside0.mk (blk_drewN HX.out nq)
  have HM2 := Aside0.mk (show MB 76 41 (W.drewN nq) g v from HM.out.of rfl)
  generalize W.drewN nq = W2 at HB2 HX2 HM2 ⊢
  clear HB HX HM x2 y1
  have x3 := blk_cell HX2.out 3
  have y2 := (HM2.out.cell (3 + r2) (by omega)).trans (congrArg some hb)
  simp only [List.getElem?_toArray, List.getElem?_cons_zero, List.getElem?_cons_succ] at x3
  go_wp2_with fail
  go_quiet (fail)
  have HB3 := Aside0.mk (pw_below_drewN HB2.out nq)
  have HX3 := Aside0.mk (blk_drewN HX2.out nq)
  have HM3 := Aside0.mk (show MB 76 41 (W2.drewN nq) g v from HM2.out.of rfl)
  generalize W2.drewN nq = W3 at HB3 HX3 HM3 ⊢
  clear HB2 HX2 HM2 x3 y2
  have x0 := blk_cell HX3.out 0
  have x4 := blk_cell HX3.out 4
  simp only [List.getElem?_toArray, List.getElem?_cons_zero, List.getElem?_cons_succ] at x0 x4
  have hk := wrapU imm
  go_wp2_with fail
  refine (ravelinref15_Find.calls 40 op f0 5 f2 f3 f4 f5 true _ HF.out).mono ?_
  rintro e w4 ⟨rfl, hb4⟩
  have HB4 := Aside0.mk (below_alloc (below_step HB3.out hb4) (.cells #[.int .i64 f0, .int .i64 5, .int .u32 f2, .int .u32 f3, .int .u32 f4, .string f5] 59))
  have HX4 := Aside0.mk (blk_alloc (blk_below HX3.out hb4) (.cells #[.int .i64 f0, .int .i64 5, .int .u32 f2, .int .u32 f3, .int .u32 f4, .string f5] 59))
  have HM4 := Aside0.mk ((HM3.out.below hb4).below (below_alloc (Below.refl w4.heap.size w4) (.cells #[.int .i64 f0, .int .i64 5, .int .u32 f2, .int .u32 f3, .int .u32 f4, .string f5] 59)))
  have z1 := blk_cell (blk_new w4 (.cells #[.int .i64 f0, .int .i64 5, .int .u32 f2, .int .u32 f3, .int .u32 f4, .string f5] 59)) 1
  have x0 := blk_cell HX4.out 0
  have x1 := blk_cell HX4.out 1
  simp only [List.getElem?_toArray, List.getElem?_cons_zero, List.getElem?_cons_succ] at x0 x1 z1
  clear hb4 HB3 HX3 HM3 HF x4 hk
  have hop : ((op : Int) == 15) = false := by simp; omega
  have hk5 := Alu.addU a (BitVec.ofInt 64 imm)
  go_wp2_with fail
  refine (HST.out _ HB4.out).mono ?_
  rintro e w6 ⟨rfl, v', hm, hp', hX⟩
  have HX6 := Aside0.mk hX
  have HBW := HB4
  have c35 := (hm.cell 35 (by omega)).trans (congrArg some hp')
  have h4 : IntKind.u64.wrap (U pc + 4) = U (pc + 4#64) := Alu.addU pc 4#64
  clear hm hX HM4 HX4 x1 x0 z1 HST
  go_wp2
  go_ret2
  exact ⟨rfl, _, v', HBW.out, HX6.out⟩
set_option maxRecDepth 20000 in
set_option maxHeartbeats 2000000 in
theorem does_S14_no (g : Nat) (v : Nat → Value) (op rd r1 r2 : Nat) (imm : Int) (pc a b : BitVec 64) (w : World) (h : MB 76 41 w g v) (hp : v 35 = .int .u64 (U pc)) (hrd : rd < 32) (hr1 : r1 < 32) (hr2 : r2 < 32) (ha : v (3 + r1) = .int .u64 (U a)) (hb : v (3 + r2) = .int .u64 (U b)) (ho1 : 14 ≤ op) (ho2 : op ≤ 14) (row : S59) (hrow : ravelinref15_Find.f 40 (op : Int) = some (row.f0, row.f1, row.f2, row.f3, row.f4, row.f5, true)) (hform : row.f1 = 5) (hst : ∀ W, Below w.heap.size w W → MB 76 41 W g v → Calls Tryz.prog 92 #[.pointer (some ⟨g, 0, none⟩), .int .u64 (U (a + BitVec.ofInt 64 imm)), .int .i64 8, .int .u64 (U b)] W fun e w' => e = .returned (.bool false) ∧ Below W.heap.size W w') :
    Calls Tryz.prog 45 #[.pointer (some ⟨g, 0, none⟩), .agg #[.int .i64 op, .int .i64 rd, .int .i64 r1, .int .i64 r2, .int .i64 imm]] w fun e w' => e = .returned (.tuple #[.int .u64 0, .int .i64 7]) ∧ MB 76 41 w' g v ∧ Only g w w' := by
  obtain ⟨f0, f1, f2, f3, f4, f5⟩ := row
  replace hform : f1 = 5 := hform
  subst hform
  replace hrow : ravelinref15_Find.f 40 (op : Int) = some (f0, 5, f2, f3, f4, f5, true) := hrow
  have HB := Aside0.mk (below_alloc (Below.refl w.heap.size w) (.cells #[.int .i64 op, .int .i64 rd, .int .i64 r1, .int .i64 r2, .int .i64 imm] 42))
  have HX := Aside0.mk (blk_new w (.cells #[.int .i64 op, .int .i64 rd, .int .i64 r1, .int .i64 r2, .int .i64 imm] 42))
  have HM := Aside0.mk (h.below HB.out)
  have HP := Aside0.mk hp
  have HF := Aside0.mk hrow
  have HST := Aside0.mk hst
  clear h hp hrow hst
  go_enter Tryz.func45, Tryz.ntmps45
  go_wp2_with fail
  obtain ⟨W, hW⟩ : ∃ W, W = w.alloc (.cells #[.int .i64 op, .int .i64 rd, .int .i64 r1, .int .i64 r2, .int .i64 imm] 42) := ⟨_, rfl⟩
  rw [← hW] at HB HX HM ⊢
  clear hW
  have x2 := blk_cell HX.out 2
  have y1 := (HM.out.cell (3 + r1) (by omega)).trans (congrArg some ha)
  simp only [List.getElem?_toArray, List.getElem?_cons_zero, List.getElem?_cons_succ] at x2
  have q0 : (0 : Int) ≤ (r1 : Int) := by omega
  have q1 : (r1 : Int) < 32 := by omega
  have q2 : (0 : Int) ≤ (r2 : Int) := by omega
  have q3 : (r2 : Int) < 32 := by omega
  go_quiet (fail)
  have HB2 := Aside0.mk (pw_below_drewN HB.out nq)
  have HX2 := Aside0.mk (blk_drewN HX.out nq)
  have HM2 := Aside0.mk (show MB 76 41 (W.drewN nq) g v from HM.out.of rfl)
  generalize W.drewN nq = W2 at HB2 HX2 HM2 ⊢
  clear HB HX HM x2 y1
  have x3 := blk_cell HX2.out 3
  have y2 := (HM2.out.cell (3 + r2) (by omega)).trans (congrArg some hb)
  simp only [List.getElem?_toArray, List.getElem?_cons_zero, List.getElem?_cons_succ] at x3
  go_wp2_with fail
  go_quiet (fail)
  have HB3 := Aside0.mk (pw_below_drewN HB2.out nq)
  have HX3 := Aside0.mk (blk_drewN HX2.out nq)
  have HM3 := Aside0.mk (show MB 76 41 (W2.drewN nq) g v from HM2.out.of rfl)
  generalize W2.drewN nq = W3 at HB3 HX3 HM3 ⊢
  clear HB2 HX2 HM2 x3 y2
  have x0 := blk_cell HX3.out 0
  have x4 := blk_cell HX3.out 4
  simp only [List.getElem?_toArray, List.getElem?_cons_zero, List.getElem?_cons_succ] at x0 x4
  have hk := wrapU imm
  go_wp2_with fail
  refine (ravelinref15_Find.calls 40 op f0 5 f2 f3 f4 f5 true _ HF.out).mono ?_
  rintro e w4 ⟨rfl, hb4⟩
  have HB4 := Aside0.mk (below_alloc (below_step HB3.out hb4) (.cells #[.int .i64 f0, .int .i64 5, .int .u32 f2, .int .u32 f3, .int .u32 f4, .string f5] 59))
  have HX4 := Aside0.mk (blk_alloc (blk_below HX3.out hb4) (.cells #[.int .i64 f0, .int .i64 5, .int .u32 f2, .int .u32 f3, .int .u32 f4, .string f5] 59))
  have HM4 := Aside0.mk ((HM3.out.below hb4).below (below_alloc (Below.refl w4.heap.size w4) (.cells #[.int .i64 f0, .int .i64 5, .int .u32 f2, .int .u32 f3, .int .u32 f4, .string f5] 59)))
  have z1 := blk_cell (blk_new w4 (.cells #[.int .i64 f0, .int .i64 5, .int .u32 f2, .int .u32 f3, .int .u32 f4, .string f5] 59)) 1
  have x0 := blk_cell HX4.out 0
  have x1 := blk_cell HX4.out 1
  simp only [List.getElem?_toArray, List.getElem?_cons_zero, List.getElem?_cons_succ] at x0 x1 z1
  clear hb4 HB3 HX3 HM3 HF x4 hk
  have hop : ((op : Int) == 15) = false := by simp; omega
  have hk5 := Alu.addU a (BitVec.ofInt 64 imm)
  go_wp2_with fail
  refine (HST.out _ HB4.out HM4.out).mono ?_
  rintro e w6 ⟨rfl, hd⟩
  have HM6 := Aside0.mk (HM4.out.below hd)
  have HO6 := Aside0.mk ((Only.refl g w).below (below_step HB4.out hd))
  clear hd HB4 HM4 HX4 x1 x0 z1 HST
  go_wp2
  go_ret2
  exact ⟨rfl, HM6.out, HO6.out⟩
set_option maxRecDepth 20000 in
set_option maxHeartbeats 2000000 in
theorem does_I1 (g : Nat) (v : Nat → Value) (op rd r1 r2 : Nat) (imm : Int) (pc a b : BitVec 64) (w : World) (h : MB 76 41 w g v) (hp : v 35 = .int .u64 (U pc)) (hrd : rd < 32) (hr1 : r1 < 32) (hr2 : r2 < 32) (ha : v (3 + r1) = .int .u64 (U a)) (hb : v (3 + r2) = .int .u64 (U b)) (ho1 : 1 ≤ op) (ho2 : op ≤ 34) (row : S59) (hrow : ravelinref15_Find.f 40 (op : Int) = some (row.f0, row.f1, row.f2, row.f3, row.f4, row.f5, true)) (hform : row.f1 = 1) (X : World → Int → Int → World → Prop) (hone : ∀ W, Below w.heap.size w W → MB 76 41 W g v → Calls Tryz.prog 93 #[.pointer (some ⟨g, 0, none⟩), .agg #[.int .i64 op, .int .i64 rd, .int .i64 r1, .int .i64 r2, .int .i64 imm], .int .u64 (U a), .int .u64 (U (BitVec.ofInt 64 imm))] W fun e w' => ∃ q0 q1, e = .returned (.tuple #[.int .u64 q0, .int .i64 q1]) ∧ X W q0 q1 w') :
    Calls Tryz.prog 45 #[.pointer (some ⟨g, 0, none⟩), .agg #[.int .i64 op, .int .i64 rd, .int .i64 r1, .int .i64 r2, .int .i64 imm]] w fun e w' => ∃ r0 r1 W, e = .returned (.tuple #[.int .u64 r0, .int .i64 r1]) ∧ Below w.heap.size w W ∧ X W r0 r1 w' := by
  obtain ⟨f0, f1, f2, f3, f4, f5⟩ := row
  replace hform : f1 = 1 := hform
  subst hform
  replace hrow : ravelinref15_Find.f 40 (op : Int) = some (f0, 1, f2, f3, f4, f5, true) := hrow
  have HB := Aside0.mk (below_alloc (Below.refl w.heap.size w) (.cells #[.int .i64 op, .int .i64 rd, .int .i64 r1, .int .i64 r2, .int .i64 imm] 42))
  have HX := Aside0.mk (blk_new w (.cells #[.int .i64 op, .int .i64 rd, .int .i64 r1, .int .i64 r2, .int .i64 imm] 42))
  have HM := Aside0.mk (h.below HB.out)
  have HP := Aside0.mk hp
  have HF := Aside0.mk hrow
  have HON := Aside0.mk hone
  clear h hp hrow hone
  go_enter Tryz.func45, Tryz.ntmps45
  go_wp2_with fail
  obtain ⟨W, hW⟩ : ∃ W, W = w.alloc (.cells #[.int .i64 op, .int .i64 rd, .int .i64 r1, .int .i64 r2, .int .i64 imm] 42) := ⟨_, rfl⟩
  rw [← hW] at HB HX HM ⊢
  clear hW
  have x2 := blk_cell HX.out 2
  have y1 := (HM.out.cell (3 + r1) (by omega)).trans (congrArg some ha)
  simp only [List.getElem?_toArray, List.getElem?_cons_zero, List.getElem?_cons_succ] at x2
  have q0 : (0 : Int) ≤ (r1 : Int) := by omega
  have q1 : (r1 : Int) < 32 := by omega
  have q2 : (0 : Int) ≤ (r2 : Int) := by omega
  have q3 : (r2 : Int) < 32 := by omega
  go_quiet (fail)
  have HB2 := Aside0.mk (pw_below_drewN HB.out nq)
  have HX2 := Aside0.mk (blk_drewN HX.out nq)
  have HM2 := Aside0.mk (show MB 76 41 (W.drewN nq) g v from HM.out.of rfl)
  generalize W.drewN nq = W2 at HB2 HX2 HM2 ⊢
  clear HB HX HM x2 y1
  have x3 := blk_cell HX2.out 3
  have y2 := (HM2.out.cell (3 + r2) (by omega)).trans (congrArg some hb)
  simp only [List.getElem?_toArray, List.getElem?_cons_zero, List.getElem?_cons_succ] at x3
  go_wp2_with fail
  go_quiet (fail)
  have HB3 := Aside0.mk (pw_below_drewN HB2.out nq)
  have HX3 := Aside0.mk (blk_drewN HX2.out nq)
  have HM3 := Aside0.mk (show MB 76 41 (W2.drewN nq) g v from HM2.out.of rfl)
  generalize W2.drewN nq = W3 at HB3 HX3 HM3 ⊢
  clear HB2 HX2 HM2 x3 y2
  have x0 := blk_cell HX3.out 0
  have x4 := blk_cell HX3.out 4
  simp only [List.getElem?_toArray, List.getElem?_cons_zero, List.getElem?_cons_succ] at x0 x4
  have hk := wrapU imm
  go_wp2_with fail
  refine (ravelinref15_Find.calls 40 op f0 1 f2 f3 f4 f5 true _ HF.out).mono ?_
  rintro e w4 ⟨rfl, hb4⟩
  have HB4 := Aside0.mk (below_alloc (below_step HB3.out hb4) (.cells #[.int .i64 f0, .int .i64 1, .int .u32 f2, .int .u32 f3, .int .u32 f4, .string f5] 59))
  have HX4 := Aside0.mk (blk_alloc (blk_below HX3.out hb4) (.cells #[.int .i64 f0, .int .i64 1, .int .u32 f2, .int .u32 f3, .int .u32 f4, .string f5] 59))
  have HM4 := Aside0.mk ((HM3.out.below hb4).below (below_alloc (Below.refl w4.heap.size w4) (.cells #[.int .i64 f0, .int .i64 1, .int .u32 f2, .int .u32 f3, .int .u32 f4, .string f5] 59)))
  have z1 := blk_cell (blk_new w4 (.cells #[.int .i64 f0, .int .i64 1, .int .u32 f2, .int .u32 f3, .int .u32 f4, .string f5] 59)) 1
  have x0 := blk_cell HX4.out 0
  have x1 := blk_cell HX4.out 1
  simp only [List.getElem?_toArray, List.getElem?_cons_zero, List.getElem?_cons_succ] at x0 x1 z1
  clear hb4 HB3 HX3 HM3 HF x4 hk
  have x2 := blk_cell HX4.out 2
  have x3 := blk_cell HX4.out 3
  have x4 := blk_cell HX4.out 4
  simp only [List.getElem?_toArray, List.getElem?_cons_zero, List.getElem?_cons_succ] at x2 x3 x4
  go_wp2_with fail
  refine (HON.out _ HB4.out HM4.out).mono ?_
  rintro e w6 ⟨q0', q1', rfl, hX⟩
  have HX6 := Aside0.mk hX
  have HBW := HB4
  clear hX HM4 HX4 x0 x1 x2 x3 x4 z1 HON
  go_wp2
  go_ret2
  exact ⟨q0', q1', _, rfl, HBW.out, HX6.out⟩
set_option maxRecDepth 20000 in
set_option maxHeartbeats 2000000 in
theorem does_I2 (g : Nat) (v : Nat → Value) (op rd r1 r2 : Nat) (imm : Int) (pc a b : BitVec 64) (w : World) (h : MB 76 41 w g v) (hp : v 35 = .int .u64 (U pc)) (hrd : rd < 32) (hr1 : r1 < 32) (hr2 : r2 < 32) (ha : v (3 + r1) = .int .u64 (U a)) (hb : v (3 + r2) = .int .u64 (U b)) (ho1 : 1 ≤ op) (ho2 : op ≤ 34) (row : S59) (hrow : ravelinref15_Find.f 40 (op : Int) = some (row.f0, row.f1, row.f2, row.f3, row.f4, row.f5, true)) (hform : row.f1 = 2) (X : World → Int → Int → World → Prop) (hone : ∀ W, Below w.heap.size w W → MB 76 41 W g v → Calls Tryz.prog 93 #[.pointer (some ⟨g, 0, none⟩), .agg #[.int .i64 op, .int .i64 rd, .int .i64 r1, .int .i64 r2, .int .i64 imm], .int .u64 (U a), .int .u64 (U (BitVec.ofInt 64 imm))] W fun e w' => ∃ q0 q1, e = .returned (.tuple #[.int .u64 q0, .int .i64 q1]) ∧ X W q0 q1 w') :
    Calls Tryz.prog 45 #[.pointer (some ⟨g, 0, none⟩), .agg #[.int .i64 op, .int .i64 rd, .int .i64 r1, .int .i64 r2, .int .i64 imm]] w fun e w' => ∃ r0 r1 W, e = .returned (.tuple #[.int .u64 r0, .int .i64 r1]) ∧ Below w.heap.size w W ∧ X W r0 r1 w' := by
  obtain ⟨f0, f1, f2, f3, f4, f5⟩ := row
  replace hform : f1 = 2 := hform
  subst hform
  replace hrow : ravelinref15_Find.f 40 (op : Int) = some (f0, 2, f2, f3, f4, f5, true) := hrow
  have HB := Aside0.mk (below_alloc (Below.refl w.heap.size w) (.cells #[.int .i64 op, .int .i64 rd, .int .i64 r1, .int .i64 r2, .int .i64 imm] 42))
  have HX := Aside0.mk (blk_new w (.cells #[.int .i64 op, .int .i64 rd, .int .i64 r1, .int .i64 r2, .int .i64 imm] 42))
  have HM := Aside0.mk (h.below HB.out)
  have HP := Aside0.mk hp
  have HF := Aside0.mk hrow
  have HON := Aside0.mk hone
  clear h hp hrow hone
  go_enter Tryz.func45, Tryz.ntmps45
  go_wp2_with fail
  obtain ⟨W, hW⟩ : ∃ W, W = w.alloc (.cells #[.int .i64 op, .int .i64 rd, .int .i64 r1, .int .i64 r2, .int .i64 imm] 42) := ⟨_, rfl⟩
  rw [← hW] at HB HX HM ⊢
  clear hW
  have x2 := blk_cell HX.out 2
  have y1 := (HM.out.cell (3 + r1) (by omega)).trans (congrArg some ha)
  simp only [List.getElem?_toArray, List.getElem?_cons_zero, List.getElem?_cons_succ] at x2
  have q0 : (0 : Int) ≤ (r1 : Int) := by omega
  have q1 : (r1 : Int) < 32 := by omega
  have q2 : (0 : Int) ≤ (r2 : Int) := by omega
  have q3 : (r2 : Int) < 32 := by omega
  go_quiet (fail)
  have HB2 := Aside0.mk (pw_below_drewN HB.out nq)
  have HX2 := Aside0.mk (blk_drewN HX.out nq)
  have HM2 := Aside0.mk (show MB 76 41 (W.drewN nq) g v from HM.out.of rfl)
  generalize W.drewN nq = W2 at HB2 HX2 HM2 ⊢
  clear HB HX HM x2 y1
  have x3 := blk_cell HX2.out 3
  have y2 := (HM2.out.cell (3 + r2) (by omega)).trans (congrArg some hb)
  simp only [List.getElem?_toArray, List.getElem?_cons_zero, List.getElem?_cons_succ] at x3
  go_wp2_with fail
  go_quiet (fail)
  have HB3 := Aside0.mk (pw_below_drewN HB2.out nq)
  have HX3 := Aside0.mk (blk_drewN HX2.out nq)
  have HM3 := Aside0.mk (show MB 76 41 (W2.drewN nq) g v from HM2.out.of rfl)
  generalize W2.drewN nq = W3 at HB3 HX3 HM3 ⊢
  clear HB2 HX2 HM2 x3 y2
  have x0 := blk_cell HX3.out 0
  have x4 := blk_cell HX3.out 4
  simp only [List.getElem?_toArray, List.getElem?_cons_zero, List.getElem?_cons_succ] at x0 x4
  have hk := wrapU imm
  go_wp2_with fail
  refine (ravelinref15_Find.calls 40 op f0 2 f2 f3 f4 f5 true _ HF.out).mono ?_
  rintro e w4 ⟨rfl, hb4⟩
  have HB4 := Aside0.mk (below_alloc (below_step HB3.out hb4) (.cells #[.int .i64 f0, .int .i64 2, .int .u32 f2, .int .u32 f3, .int .u32 f4, .string f5] 59))
  have HX4 := Aside0.mk (blk_alloc (blk_below HX3.out hb4) (.cells #[.int .i64 f0, .int .i64 2, .int .u32 f2, .int .u32 f3, .int .u32 f4, .string f5] 59))
  have HM4 := Aside0.mk ((HM3.out.below hb4).below (below_alloc (Below.refl w4.heap.size w4) (.cells #[.int .i64 f0, .int .i64 2, .int .u32 f2, .int .u32 f3, .int .u32 f4, .string f5] 59)))
  have z1 := blk_cell (blk_new w4 (.cells #[.int .i64 f0, .int .i64 2, .int .u32 f2, .int .u32 f3, .int .u32 f4, .string f5] 59)) 1
  have x0 := blk_cell HX4.out 0
  have x1 := blk_cell HX4.out 1
  simp only [List.getElem?_toArray, List.getElem?_cons_zero, List.getElem?_cons_succ] at x0 x1 z1
  clear hb4 HB3 HX3 HM3 HF x4 hk
  have x2 := blk_cell HX4.out 2
  have x3 := blk_cell HX4.out 3
  have x4 := blk_cell HX4.out 4
  simp only [List.getElem?_toArray, List.getElem?_cons_zero, List.getElem?_cons_succ] at x2 x3 x4
  go_wp2_with fail
  refine (HON.out _ HB4.out HM4.out).mono ?_
  rintro e w6 ⟨q0', q1', rfl, hX⟩
  have HX6 := Aside0.mk hX
  have HBW := HB4
  clear hX HM4 HX4 x0 x1 x2 x3 x4 z1 HON
  go_wp2
  go_ret2
  exact ⟨q0', q1', _, rfl, HBW.out, HX6.out⟩
set_option maxRecDepth 20000 in
set_option maxHeartbeats 2000000 in
theorem does_I3 (g : Nat) (v : Nat → Value) (op rd r1 r2 : Nat) (imm : Int) (pc a b : BitVec 64) (w : World) (h : MB 76 41 w g v) (hp : v 35 = .int .u64 (U pc)) (hrd : rd < 32) (hr1 : r1 < 32) (hr2 : r2 < 32) (ha : v (3 + r1) = .int .u64 (U a)) (hb : v (3 + r2) = .int .u64 (U b)) (ho1 : 1 ≤ op) (ho2 : op ≤ 34) (row : S59) (hrow : ravelinref15_Find.f 40 (op : Int) = some (row.f0, row.f1, row.f2, row.f3, row.f4, row.f5, true)) (hform : row.f1 = 3) (X : World → Int → Int → World → Prop) (hone : ∀ W, Below w.heap.size w W → MB 76 41 W g v → Calls Tryz.prog 93 #[.pointer (some ⟨g, 0, none⟩), .agg #[.int .i64 op, .int .i64 rd, .int .i64 r1, .int .i64 r2, .int .i64 imm], .int .u64 (U a), .int .u64 (U (BitVec.ofInt 64 imm))] W fun e w' => ∃ q0 q1, e = .returned (.tuple #[.int .u64 q0, .int .i64 q1]) ∧ X W q0 q1 w') :
    Calls Tryz.prog 45 #[.pointer (some ⟨g, 0, none⟩), .agg #[.int .i64 op, .int .i64 rd, .int .i64 r1, .int .i64 r2, .int .i64 imm]] w fun e w' => ∃ r0 r1 W, e = .returned (.tuple #[.int .u64 r0, .int .i64 r1]) ∧ Below w.heap.size w W ∧ X W r0 r1 w' := by
  obtain ⟨f0, f1, f2, f3, f4, f5⟩ := row
  replace hform : f1 = 3 := hform
  subst hform
  replace hrow : ravelinref15_Find.f 40 (op : Int) = some (f0, 3, f2, f3, f4, f5, true) := hrow
  have HB := Aside0.mk (below_alloc (Below.refl w.heap.size w) (.cells #[.int .i64 op, .int .i64 rd, .int .i64 r1, .int .i64 r2, .int .i64 imm] 42))
  have HX := Aside0.mk (blk_new w (.cells #[.int .i64 op, .int .i64 rd, .int .i64 r1, .int .i64 r2, .int .i64 imm] 42))
  have HM := Aside0.mk (h.below HB.out)
  have HP := Aside0.mk hp
  have HF := Aside0.mk hrow
  have HON := Aside0.mk hone
  clear h hp hrow hone
  go_enter Tryz.func45, Tryz.ntmps45
  go_wp2_with fail
  obtain ⟨W, hW⟩ : ∃ W, W = w.alloc (.cells #[.int .i64 op, .int .i64 rd, .int .i64 r1, .int .i64 r2, .int .i64 imm] 42) := ⟨_, rfl⟩
  rw [← hW] at HB HX HM ⊢
  clear hW
  have x2 := blk_cell HX.out 2
  have y1 := (HM.out.cell (3 + r1) (by omega)).trans (congrArg some ha)
  simp only [List.getElem?_toArray, List.getElem?_cons_zero, List.getElem?_cons_succ] at x2
  have q0 : (0 : Int) ≤ (r1 : Int) := by omega
  have q1 : (r1 : Int) < 32 := by omega
  have q2 : (0 : Int) ≤ (r2 : Int) := by omega
  have q3 : (r2 : Int) < 32 := by omega
  go_quiet (fail)
  have HB2 := Aside0.mk (pw_below_drewN HB.out nq)
  have HX2 := Aside0.mk (blk_drewN HX.out nq)
  have HM2 := Aside0.mk (show MB 76 41 (W.drewN nq) g v from HM.out.of rfl)
  generalize W.drewN nq = W2 at HB2 HX2 HM2 ⊢
  clear HB HX HM x2 y1
  have x3 := blk_cell HX2.out 3
  have y2 := (HM2.out.cell (3 + r2) (by omega)).trans (congrArg some hb)
  simp only [List.getElem?_toArray, List.getElem?_cons_zero, List.getElem?_cons_succ] at x3
  go_wp2_with fail
  go_quiet (fail)
  have HB3 := Aside0.mk (pw_below_drewN HB2.out nq)
  have HX3 := Aside0.mk (blk_drewN HX2.out nq)
  have HM3 := Aside0.mk (show MB 76 41 (W2.drewN nq) g v from HM2.out.of rfl)
  generalize W2.drewN nq = W3 at HB3 HX3 HM3 ⊢
  clear HB2 HX2 HM2 x3 y2
  have x0 := blk_cell HX3.out 0
  have x4 := blk_cell HX3.out 4
  simp only [List.getElem?_toArray, List.getElem?_cons_zero, List.getElem?_cons_succ] at x0 x4
  have hk := wrapU imm
  go_wp2_with fail
  refine (ravelinref15_Find.calls 40 op f0 3 f2 f3 f4 f5 true _ HF.out).mono ?_
  rintro e w4 ⟨rfl, hb4⟩
  have HB4 := Aside0.mk (below_alloc (below_step HB3.out hb4) (.cells #[.int .i64 f0, .int .i64 3, .int .u32 f2, .int .u32 f3, .int .u32 f4, .string f5] 59))
  have HX4 := Aside0.mk (blk_alloc (blk_below HX3.out hb4) (.cells #[.int .i64 f0, .int .i64 3, .int .u32 f2, .int .u32 f3, .int .u32 f4, .string f5] 59))
  have HM4 := Aside0.mk ((HM3.out.below hb4).below (below_alloc (Below.refl w4.heap.size w4) (.cells #[.int .i64 f0, .int .i64 3, .int .u32 f2, .int .u32 f3, .int .u32 f4, .string f5] 59)))
  have z1 := blk_cell (blk_new w4 (.cells #[.int .i64 f0, .int .i64 3, .int .u32 f2, .int .u32 f3, .int .u32 f4, .string f5] 59)) 1
  have x0 := blk_cell HX4.out 0
  have x1 := blk_cell HX4.out 1
  simp only [List.getElem?_toArray, List.getElem?_cons_zero, List.getElem?_cons_succ] at x0 x1 z1
  clear hb4 HB3 HX3 HM3 HF x4 hk
  have x2 := blk_cell HX4.out 2
  have x3 := blk_cell HX4.out 3
  have x4 := blk_cell HX4.out 4
  simp only [List.getElem?_toArray, List.getElem?_cons_zero, List.getElem?_cons_succ] at x2 x3 x4
  go_wp2_with fail
  refine (HON.out _ HB4.out HM4.out).mono ?_
  rintro e w6 ⟨q0', q1', rfl, hX⟩
  have HX6 := Aside0.mk hX
  have HBW := HB4
  clear hX HM4 HX4 x0 x1 x2 x3 x4 z1 HON
  go_wp2
  go_ret2
  exact ⟨q0', q1', _, rfl, HBW.out, HX6.out⟩
set_option maxRecDepth 20000 in
set_option maxHeartbeats 2000000 in
theorem does_I4 (g : Nat) (v : Nat → Value) (op rd r1 r2 : Nat) (imm : Int) (pc a b : BitVec 64) (w : World) (h : MB 76 41 w g v) (hp : v 35 = .int .u64 (U pc)) (hrd : rd < 32) (hr1 : r1 < 32) (hr2 : r2 < 32) (ha : v (3 + r1) = .int .u64 (U a)) (hb : v (3 + r2) = .int .u64 (U b)) (ho1 : 1 ≤ op) (ho2 : op ≤ 34) (row : S59) (hrow : ravelinref15_Find.f 40 (op : Int) = some (row.f0, row.f1, row.f2, row.f3, row.f4, row.f5, true)) (hform : row.f1 = 4) (X : World → Int → Int → World → Prop) (hone : ∀ W, Below w.heap.size w W → MB 76 41 W g v → Calls Tryz.prog 93 #[.pointer (some ⟨g, 0, none⟩), .agg #[.int .i64 op, .int .i64 rd, .int .i64 r1, .int .i64 r2, .int .i64 imm], .int .u64 (U a), .int .u64 (U (BitVec.ofInt 64 imm))] W fun e w' => ∃ q0 q1, e = .returned (.tuple #[.int .u64 q0, .int .i64 q1]) ∧ X W q0 q1 w') :
    Calls Tryz.prog 45 #[.pointer (some ⟨g, 0, none⟩), .agg #[.int .i64 op, .int .i64 rd, .int .i64 r1, .int .i64 r2, .int .i64 imm]] w fun e w' => ∃ r0 r1 W, e = .returned (.tuple #[.int .u64 r0, .int .i64 r1]) ∧ Below w.heap.size w W ∧ X W r0 r1 w' := by
  obtain ⟨f0, f1, f2, f3, f4, f5⟩ := row
  replace hform : f1 = 4 := hform
  subst hform
  replace hrow : ravelinref15_Find.f 40 (op : Int) = some (f0, 4, f2, f3, f4, f5, true) := hrow
  have HB := Aside0.mk (below_alloc (Below.refl w.heap.size w) (.cells #[.int .i64 op, .int .i64 rd, .int .i64 r1, .int .i64 r2, .int .i64 imm] 42))
  have HX := Aside0.mk (blk_new w (.cells #[.int .i64 op, .int .i64 rd, .int .i64 r1, .int .i64 r2, .int .i64 imm] 42))
  have HM := Aside0.mk (h.below HB.out)
  have HP := Aside0.mk hp
  have HF := Aside0.mk hrow
  have HON := Aside0.mk hone
  clear h hp hrow hone
  go_enter Tryz.func45, Tryz.ntmps45
  go_wp2_with fail
  obtain ⟨W, hW⟩ : ∃ W, W = w.alloc (.cells #[.int .i64 op, .int .i64 rd, .int .i64 r1, .int .i64 r2, .int .i64 imm] 42) := ⟨_, rfl⟩
  rw [← hW] at HB HX HM ⊢
  clear hW
  have x2 := blk_cell HX.out 2
  have y1 := (HM.out.cell (3 + r1) (by omega)).trans (congrArg some ha)
  simp only [List.getElem?_toArray, List.getElem?_cons_zero, List.getElem?_cons_succ] at x2
  have q0 : (0 : Int) ≤ (r1 : Int) := by omega
  have q1 : (r1 : Int) < 32 := by omega
  have q2 : (0 : Int) ≤ (r2 : Int) := by omega
  have q3 : (r2 : Int) < 32 := by omega
  go_quiet (fail)
  have HB2 := Aside0.mk (pw_below_drewN HB.out nq)
  have HX2 := Aside0.mk (blk_drewN HX.out nq)
  have HM2 := Aside0.mk (show MB 76 41 (W.drewN nq) g v from HM.out.of rfl)
  generalize W.drewN nq = W2 at HB2 HX2 HM2 ⊢
  clear HB HX HM x2 y1
  have x3 := blk_cell HX2.out 3
  have y2 := (HM2.out.cell (3 + r2) (by omega)).trans (congrArg some hb)
  simp only [List.getElem?_toArray, List.getElem?_cons_zero, List.getElem?_cons_succ] at x3
  go_wp2_with fail
  go_quiet (fail)
  have HB3 := Aside0.mk (pw_below_drewN HB2.out nq)
  have HX3 := Aside0.mk (blk_drewN HX2.out nq)
  have HM3 := Aside0.mk (show MB 76 41 (W2.drewN nq) g v from HM2.out.of rfl)
  generalize W2.drewN nq = W3 at HB3 HX3 HM3 ⊢
  clear HB2 HX2 HM2 x3 y2
  have x0 := blk_cell HX3.out 0
  have x4 := blk_cell HX3.out 4
  simp only [List.getElem?_toArray, List.getElem?_cons_zero, List.getElem?_cons_succ] at x0 x4
  have hk := wrapU imm
  go_wp2_with fail
  refine (ravelinref15_Find.calls 40 op f0 4 f2 f3 f4 f5 true _ HF.out).mono ?_
  rintro e w4 ⟨rfl, hb4⟩
  have HB4 := Aside0.mk (below_alloc (below_step HB3.out hb4) (.cells #[.int .i64 f0, .int .i64 4, .int .u32 f2, .int .u32 f3, .int .u32 f4, .string f5] 59))
  have HX4 := Aside0.mk (blk_alloc (blk_below HX3.out hb4) (.cells #[.int .i64 f0, .int .i64 4, .int .u32 f2, .int .u32 f3, .int .u32 f4, .string f5] 59))
  have HM4 := Aside0.mk ((HM3.out.below hb4).below (below_alloc (Below.refl w4.heap.size w4) (.cells #[.int .i64 f0, .int .i64 4, .int .u32 f2, .int .u32 f3, .int .u32 f4, .string f5] 59)))
  have z1 := blk_cell (blk_new w4 (.cells #[.int .i64 f0, .int .i64 4, .int .u32 f2, .int .u32 f3, .int .u32 f4, .string f5] 59)) 1
  have x0 := blk_cell HX4.out 0
  have x1 := blk_cell HX4.out 1
  simp only [List.getElem?_toArray, List.getElem?_cons_zero, List.getElem?_cons_succ] at x0 x1 z1
  clear hb4 HB3 HX3 HM3 HF x4 hk
  have x2 := blk_cell HX4.out 2
  have x3 := blk_cell HX4.out 3
  have x4 := blk_cell HX4.out 4
  simp only [List.getElem?_toArray, List.getElem?_cons_zero, List.getElem?_cons_succ] at x2 x3 x4
  go_wp2_with fail
  refine (HON.out _ HB4.out HM4.out).mono ?_
  rintro e w6 ⟨q0', q1', rfl, hX⟩
  have HX6 := Aside0.mk hX
  have HBW := HB4
  clear hX HM4 HX4 x0 x1 x2 x3 x4 z1 HON
  go_wp2
  go_ret2
  exact ⟨q0', q1', _, rfl, HBW.out, HX6.out⟩
end Go.Proofs.YtcgkgaibomcheaaGreat.RDoes2
end

section
namespace Go.Proofs.YtcgkgaibomcheaaGreat.Mac
open Go.RowKit Bits Dec Alu PRvemuRuns YtcgkgaibomcheaaGreatW.PrintWords
structure Mac where
  code : List Int
  data : List Int
  frame : List Int
  x : Nat → BitVec 64
  pc : BitVec 64
  fuel : Int
  steps : Int
  done : Bool
  err : Int
  tr : List S54
def setx (m : Mac) (rd : Nat) (r : BitVec 64) : Mac := if rd = 0 then m else { m with x := fun i => if i = rd then r else m.x i }
def setpc (m : Mac) (pc : BitVec 64) : Mac := { m with pc := pc }
def note (m : Mac) (e : S54) : Mac := { m with tr := m.tr ++ [e] }
def setf (m : Mac) (l : List Int) : Mac := { m with frame := l }
def fin (m : Mac) (e : Int) : Mac := { m with done := true, err := e }
def fr (L : Nat) (a : Int) (n : Nat) : Bool := decide (2147418112 - (L : Int) ≤ a ∧ a + n ≤ 2147418112)
def da (a : Int) (n : Nat) : Bool := decide (65536 ≤ a ∧ a + n ≤ 65600)
def loads (m : Mac) (a : BitVec 64) (n : Nat) : Option (BitVec 64) :=
  if fr m.frame.length (U a) n = true then some (ld m.frame (U a - (2147418112 - (m.frame.length : Int))).toNat n) else if da (U a) n = true then some (ld m.data (U a - 65536).toNat n) else none
def oneV (n : Nat) (a k : BitVec 64) : BitVec 64 :=
  if n = 1 then s32 (k <<< 12) else if n = 2 then a + k else if n = 3 then s32 (a + k) else if n = 4 then a &&& k else if n = 5 then a ||| k else if n = 6 then a ^^^ k else
  if n = 7 then a <<< k.toNat else if n = 8 then a >>> k.toNat else if n = 9 then s32 (a <<< k.toNat) else s32 (low a >>> k.toNat)
def sz (n : Nat) : Nat := if n = 11 ∨ n = 14 then 8 else 4
def ra (m : Mac) (n wd : Nat) : BitVec 64 := m.x (fs1Of n wd)
def rb (m : Mac) (n wd : Nat) : BitVec 64 := m.x (fs2Of n wd)
def im (n wd : Nat) : BitVec 64 := BitVec.ofInt 64 (immOf (formOf n) wd)
def does (m : Mac) (n wd : Nat) : Mac × Int :=
  if n ≤ 10 then (setx (setpc m (m.pc + 4#64)) (fdOf n wd) (oneV n (ra m n wd) (im n wd)), 0)
  else if n ≤ 13 then (match loads m (ra m n wd + im n wd) (sz n) with
    | none => (m, 6)
    | some v => (setx (note (setpc m (m.pc + 4#64)) ⟨false, U (ra m n wd + im n wd), sz n⟩) (fdOf n wd) (if n = 12 then s32 v else v), 0))
  else if n ≤ 15 then (if fr m.frame.length (U (ra m n wd + im n wd)) (sz n) = true then
      (note (setf (setpc m (m.pc + 4#64)) (st m.frame (U (ra m n wd + im n wd) - (2147418112 - (m.frame.length : Int))).toNat (rb m n wd) (sz n))) ⟨true, U (ra m n wd + im n wd), sz n⟩, 0)
    else (m, 7))
  else if n ≤ 28 then (match RTwo.two n (ra m n wd) (rb m n wd) with
    | none => (m, 8)
    | some v => (setx (setpc m (m.pc + 4#64)) (fdOf n wd) v, 0))
  else if n ≤ 32 then (setpc m (RDoes2.nextPc (RTwo.ask n (ra m n wd) (rb m n wd)) m.pc (im n wd)), 0)
  else if n = 33 then (setx (setpc m (m.pc + im n wd)) (fdOf n wd) (m.pc + 4#64), 0)
  else (setx (setpc m ((ra m n wd + im n wd) &&& ~~~1#64)) (fdOf n wd) (m.pc + 4#64), 0)
def fetches (m : Mac) : Bool := decide (m.pc.toNat % 4 = 0 ∧ 4194304 ≤ m.pc.toNat ∧ m.pc.toNat - 4194304 + 4 ≤ m.code.length)
def word (m : Mac) : Nat := (ld m.code (m.pc.toNat - 4194304) 4).toNat
def back : BitVec 64 := 412316860416#64
def after (m : Mac) : Mac := { m with steps := m.steps + 1, done := decide (m.pc = back) }
def stepM (m : Mac) : Mac :=
  if m.done = true then m
  else if m.pc = back then fin m 0
  else if m.fuel ≤ m.steps then fin m 3
  else if fetches m = false then fin m 4
  else match dec (word m) with
    | none => fin m 5
    | some n => if (does m n (word m)).2 = 0 then after (does m n (word m)).1 else fin m (does m n (word m)).2
end Go.Proofs.YtcgkgaibomcheaaGreat.Mac
end

section
namespace Go.Proofs.YtcgkgaibomcheaaGreat.Reg
open Go.RowKit Bits Mb YtcgkgaibomcheaaGreatW.PrintWords YtcgkgaibomcheaaGreatW.PrintLast YtcgkgaibomcheaaGreatW.PrintMore
def inFrame (L : Nat) (a : Int) (n : Nat) : Prop := 2147418112 - (L : Int) ≤ a ∧ a + n ≤ 2147418112
def inData (a : Int) (n : Nat) : Prop := 65536 ≤ a ∧ a + n ≤ 65600
theorem info5 : (Tryz.prog.info? 5).map (fun i => i.size) = some 1 := by kernel_rfl
theorem cut (gf c L : Nat) (lo hi : Int) (h0 : 0 ≤ lo) (h1 : lo < hi) (h2 : hi ≤ L) (hc : L ≤ c) (W : World) :
    (Instr.slice 22 (.slice (some ⟨gf, 0, none⟩) L c) (some (.int .u64 lo)) (some (.int .u64 hi)) none).run Tryz.prog W = .ok (.slice (some ⟨gf, lo.toNat, none⟩) (hi.toNat - lo.toNat) (c - lo.toNat)) W := by
  obtain ⟨i, hi', hz⟩ := Option.map_eq_some_iff.1 info5
  have h := cut_mid (P := Tryz.prog) 22 5 .u64 .u64 Tryz.underlying22 hi' 1 hz (some ⟨gf, 0, none⟩) L c lo hi h0 (by omega) h2 hc W
  rw [if_neg (by omega)] at h
  rw [h]
  simp [Addr.add]
  omega
set_option maxRecDepth 20000 in
set_option maxHeartbeats 1000000 in
theorem frame (g : Nat) (v : Nat → Value) (gf cf L : Nat) (a : Int) (n : Nat) (wr : Bool) (w : World) (h : MB 74 42 w g v) (h2 : v 2 = .slice (some ⟨gf, 0, none⟩) L cf) (hL : L ≤ 1048576) (hc : L ≤ cf) (hn1 : 1 ≤ n) (hn8 : n ≤ 8) (hin : inFrame L a n) :
    Calls Tryz.prog 110 #[.pointer (some ⟨g, 0, none⟩), .int .u64 a, .int .i64 n, .bool wr] w fun e w' => e = .returned (.slice (some ⟨gf, (a - (2147418112 - (L : Int))).toNat, none⟩) n (cf - (a - (2147418112 - (L : Int))).toNat)) ∧ w' = w := by
  obtain ⟨hi1, hi2⟩ := hin
  have hc2 := (h.cell 2 (by omega)).trans (congrArg some h2)
  have hs := cut gf cf L (a - (2147418112 - (L : Int))) (a - (2147418112 - (L : Int)) + n) (by omega) (by omega) (by omega) hc w
  rw [show (a - (2147418112 - (L : Int)) + n).toNat - (a - (2147418112 - (L : Int))).toNat = n by omega] at hs
  have w1 : IntKind.u64.wrap (L : Int) = (L : Int) := by simp only [IntKind.wrap, IntKind.bits, IntKind.signed, Bool.false_and, Bool.false_eq_true, if_false]; omega
  have w2 : IntKind.u64.wrap (2147418112 - (L : Int)) = 2147418112 - (L : Int) := by simp only [IntKind.wrap, IntKind.bits, IntKind.signed, Bool.false_and, Bool.false_eq_true, if_false]; omega
  have w3 : IntKind.u64.wrap (a - (2147418112 - (L : Int))) = a - (2147418112 - (L : Int)) := by simp only [IntKind.wrap, IntKind.bits, IntKind.signed, Bool.false_and, Bool.false_eq_true, if_false]; omega
  have w4 : IntKind.u64.wrap (n : Int) = (n : Int) := by simp only [IntKind.wrap, IntKind.bits, IntKind.signed, Bool.false_and, Bool.false_eq_true, if_false]; omega
  have w5 : IntKind.u64.wrap (a - (2147418112 - (L : Int)) + n) = a - (2147418112 - (L : Int)) + n := by simp only [IntKind.wrap, IntKind.bits, IntKind.signed, Bool.false_and, Bool.false_eq_true, if_false]; omega
  have d1 : decide (a ≥ 2147418112 - (L : Int)) = true := decide_eq_true (by omega)
  have d2 : decide (a - (2147418112 - (L : Int)) + n ≤ (L : Int)) = true := decide_eq_true (by omega)
  have d3 : decide (a - (2147418112 - (L : Int)) ≤ (L : Int)) = true := decide_eq_true (by omega)
  clear h h2 hi1 hi2
  obtain ⟨B, hB⟩ : ∃ B : Int, 2147418112 - (L : Int) = B := ⟨_, rfl⟩
  rw [hB] at w2 w3 w5 d1 d2 d3 hs ⊢
  obtain ⟨I, hI⟩ : ∃ I : Int, a - B = I := ⟨_, rfl⟩
  rw [hI] at w3 w5 d2 d3 hs ⊢
  obtain ⟨J, hJ⟩ : ∃ J : Int, I + n = J := ⟨_, rfl⟩
  rw [hJ] at w5 d2 hs
  go_enter Tryz.func110, Tryz.ntmps110
  go_wp2
  go_ret
  exact ⟨rfl, rfl⟩
set_option maxRecDepth 20000 in
set_option maxHeartbeats 1000000 in
theorem data (g : Nat) (v : Nat → Value) (Af : Option Addr) (cf L : Nat) (gd cd : Nat) (a : Int) (n : Nat) (w : World) (h : MB 74 42 w g v) (h1 : v 1 = .slice (some ⟨gd, 0, none⟩) 64 cd) (h2 : v 2 = .slice Af L cf) (hL : L ≤ 1048576) (hcd : 64 ≤ cd) (h0 : 0 ≤ a) (ha : a < 18446744073709551616) (hn1 : 1 ≤ n) (hn8 : n ≤ 8) (hnf : a < 2147418112 - (L : Int)) (hin : inData a n) :
    Calls Tryz.prog 110 #[.pointer (some ⟨g, 0, none⟩), .int .u64 a, .int .i64 n, .bool false] w fun e w' => e = .returned (.slice (some ⟨gd, (a - 65536).toNat, none⟩) n (cd - (a - 65536).toNat)) ∧ w' = w := by
  have hc1 := (h.cell 1 (by omega)).trans (congrArg some h1)
  have hc2 := (h.cell 2 (by omega)).trans (congrArg some h2)
  have w1 : IntKind.u64.wrap (L : Int) = (L : Int) := by simp only [IntKind.wrap, IntKind.bits, IntKind.signed, Bool.false_and, Bool.false_eq_true, if_false]; omega
  have w2 : IntKind.u64.wrap (2147418112 - (L : Int)) = 2147418112 - (L : Int) := by simp only [IntKind.wrap, IntKind.bits, IntKind.signed, Bool.false_and, Bool.false_eq_true, if_false]; omega
  have w4 : IntKind.u64.wrap (n : Int) = (n : Int) := by simp only [IntKind.wrap, IntKind.bits, IntKind.signed, Bool.false_and, Bool.false_eq_true, if_false]; omega
  obtain ⟨hi1, hi2⟩ := hin
  have hs := cut gd cd 64 (a - 65536) (a - 65536 + n) (by omega) (by omega) (by omega) hcd w
  rw [show (a - 65536 + n).toNat - (a - 65536).toNat = n by omega] at hs
  have w3 : IntKind.u64.wrap (a - 65536) = a - 65536 := by simp only [IntKind.wrap, IntKind.bits, IntKind.signed, Bool.false_and, Bool.false_eq_true, if_false]; omega
  have w5 : IntKind.u64.wrap (a - 65536 + n) = a - 65536 + n := by simp only [IntKind.wrap, IntKind.bits, IntKind.signed, Bool.false_and, Bool.false_eq_true, if_false]; omega
  have d1 : decide (a ≥ 2147418112 - (L : Int)) = false := decide_eq_false (by omega)
  have d4 : decide (a ≥ 65536) = true := decide_eq_true (by omega)
  have d5 : decide (a - 65536 ≤ 64) = true := decide_eq_true (by omega)
  have d6 : decide (a - 65536 + n ≤ 64) = true := decide_eq_true (by omega)
  clear h h1 h2 hi1 hi2 hnf
  obtain ⟨B, hB⟩ : ∃ B : Int, 2147418112 - (L : Int) = B := ⟨_, rfl⟩
  rw [hB] at w2 d1
  obtain ⟨I, hI⟩ : ∃ I : Int, a - 65536 = I := ⟨_, rfl⟩
  rw [hI] at w3 w5 d5 d6 hs ⊢
  obtain ⟨J, hJ⟩ : ∃ J : Int, I + n = J := ⟨_, rfl⟩
  rw [hJ] at w5 d6 hs
  go_enter Tryz.func110, Tryz.ntmps110
  go_wp2
  go_ret
  exact ⟨rfl, rfl⟩
set_option maxRecDepth 20000 in
set_option maxHeartbeats 1000000 in
theorem above_r (g : Nat) (v : Nat → Value) (Af : Option Addr) (cf L : Nat) (gd cd : Nat) (a : Int) (n : Nat) (w : World) (h : MB 74 42 w g v) (h1 : v 1 = .slice (some ⟨gd, 0, none⟩) 64 cd) (h2 : v 2 = .slice Af L cf) (hL : L ≤ 1048576) (hcd : 64 ≤ cd) (h0 : 0 ≤ a) (ha : a < 18446744073709551616) (hn1 : 1 ≤ n) (hn8 : n ≤ 8) (hge : 2147418112 - (L : Int) ≤ a) (hgt : 2147418112 < a + n) :
    Calls Tryz.prog 110 #[.pointer (some ⟨g, 0, none⟩), .int .u64 a, .int .i64 n, .bool false] w fun e w' => e = .returned (.slice none 0 0) ∧ w' = w := by
  have hc1 := (h.cell 1 (by omega)).trans (congrArg some h1)
  have hc2 := (h.cell 2 (by omega)).trans (congrArg some h2)
  have w1 : IntKind.u64.wrap (L : Int) = (L : Int) := by simp only [IntKind.wrap, IntKind.bits, IntKind.signed, Bool.false_and, Bool.false_eq_true, if_false]; omega
  have w2 : IntKind.u64.wrap (2147418112 - (L : Int)) = 2147418112 - (L : Int) := by simp only [IntKind.wrap, IntKind.bits, IntKind.signed, Bool.false_and, Bool.false_eq_true, if_false]; omega
  have w4 : IntKind.u64.wrap (n : Int) = (n : Int) := by simp only [IntKind.wrap, IntKind.bits, IntKind.signed, Bool.false_and, Bool.false_eq_true, if_false]; omega
  have w3 : IntKind.u64.wrap (a - (2147418112 - (L : Int))) = a - (2147418112 - (L : Int)) := by simp only [IntKind.wrap, IntKind.bits, IntKind.signed, Bool.false_and, Bool.false_eq_true, if_false]; omega
  have w5 : IntKind.u64.wrap (a - (2147418112 - (L : Int)) + n) = a - (2147418112 - (L : Int)) + n := by simp only [IntKind.wrap, IntKind.bits, IntKind.signed, Bool.false_and, Bool.false_eq_true, if_false]; omega
  have w6 : IntKind.u64.wrap (a - 65536) = a - 65536 := by simp only [IntKind.wrap, IntKind.bits, IntKind.signed, Bool.false_and, Bool.false_eq_true, if_false]; omega
  have d1 : decide (a ≥ 2147418112 - (L : Int)) = true := decide_eq_true (by omega)
  have d2 : decide (a - (2147418112 - (L : Int)) + n ≤ (L : Int)) = false := decide_eq_false (by omega)
  have d4 : decide (a ≥ 65536) = true := decide_eq_true (by omega)
  have d5 : decide (a - 65536 ≤ 64) = false := decide_eq_false (by omega)
  clear h h1 h2 hge hgt
  obtain ⟨B, hB⟩ : ∃ B : Int, 2147418112 - (L : Int) = B := ⟨_, rfl⟩
  rw [hB] at w2 w3 w5 d1 d2
  obtain ⟨I, hI⟩ : ∃ I : Int, a - B = I := ⟨_, rfl⟩
  rw [hI] at w3 w5 d2
  obtain ⟨J, hJ⟩ : ∃ J : Int, I + n = J := ⟨_, rfl⟩
  rw [hJ] at w5 d2
  go_enter Tryz.func110, Tryz.ntmps110
  go_wp2
  go_ret
  exact ⟨rfl, rfl⟩
set_option maxRecDepth 20000 in
set_option maxHeartbeats 1000000 in
theorem above_w (g : Nat) (v : Nat → Value) (Af : Option Addr) (cf L : Nat) (gd cd : Nat) (a : Int) (n : Nat) (w : World) (h : MB 74 42 w g v) (h1 : v 1 = .slice (some ⟨gd, 0, none⟩) 64 cd) (h2 : v 2 = .slice Af L cf) (hL : L ≤ 1048576) (hcd : 64 ≤ cd) (h0 : 0 ≤ a) (ha : a < 18446744073709551616) (hn1 : 1 ≤ n) (hn8 : n ≤ 8) (hge : 2147418112 - (L : Int) ≤ a) (hgt : 2147418112 < a + n) :
    Calls Tryz.prog 110 #[.pointer (some ⟨g, 0, none⟩), .int .u64 a, .int .i64 n, .bool true] w fun e w' => e = .returned (.slice none 0 0) ∧ w' = w := by
  have hc1 := (h.cell 1 (by omega)).trans (congrArg some h1)
  have hc2 := (h.cell 2 (by omega)).trans (congrArg some h2)
  have w1 : IntKind.u64.wrap (L : Int) = (L : Int) := by simp only [IntKind.wrap, IntKind.bits, IntKind.signed, Bool.false_and, Bool.false_eq_true, if_false]; omega
  have w2 : IntKind.u64.wrap (2147418112 - (L : Int)) = 2147418112 - (L : Int) := by simp only [IntKind.wrap, IntKind.bits, IntKind.signed, Bool.false_and, Bool.false_eq_true, if_false]; omega
  have w4 : IntKind.u64.wrap (n : Int) = (n : Int) := by simp only [IntKind.wrap, IntKind.bits, IntKind.signed, Bool.false_and, Bool.false_eq_true, if_false]; omega
  have w3 : IntKind.u64.wrap (a - (2147418112 - (L : Int))) = a - (2147418112 - (L : Int)) := by simp only [IntKind.wrap, IntKind.bits, IntKind.signed, Bool.false_and, Bool.false_eq_true, if_false]; omega
  have w5 : IntKind.u64.wrap (a - (2147418112 - (L : Int)) + n) = a - (2147418112 - (L : Int)) + n := by simp only [IntKind.wrap, IntKind.bits, IntKind.signed, Bool.false_and, Bool.false_eq_true, if_false]; omega
  have w6 : IntKind.u64.wrap (a - 65536) = a - 65536 := by simp only [IntKind.wrap, IntKind.bits, IntKind.signed, Bool.false_and, Bool.false_eq_true, if_false]; omega
  have d1 : decide (a ≥ 2147418112 - (L : Int)) = true := decide_eq_true (by omega)
  have d2 : decide (a - (2147418112 - (L : Int)) + n ≤ (L : Int)) = false := decide_eq_false (by omega)
  have d4 : decide (a ≥ 65536) = true := decide_eq_true (by omega)
  have d5 : decide (a - 65536 ≤ 64) = false := decide_eq_false (by omega)
  clear h h1 h2 hge hgt
  obtain ⟨B, hB⟩ : ∃ B : Int, 2147418112 - (L : Int) = B := ⟨_, rfl⟩
  rw [hB] at w2 w3 w5 d1 d2
  obtain ⟨I, hI⟩ : ∃ I : Int, a - B = I := ⟨_, rfl⟩
  rw [hI] at w3 w5 d2
  obtain ⟨J, hJ⟩ : ∃ J : Int, I + n = J := ⟨_, rfl⟩
  rw [hJ] at w5 d2
  go_enter Tryz.func110, Tryz.ntmps110
  go_wp2
  go_ret
  exact ⟨rfl, rfl⟩
set_option maxRecDepth 20000 in
set_option maxHeartbeats 1000000 in
theorem below_w (g : Nat) (v : Nat → Value) (Af : Option Addr) (cf L : Nat) (gd cd : Nat) (a : Int) (n : Nat) (w : World) (h : MB 74 42 w g v) (h1 : v 1 = .slice (some ⟨gd, 0, none⟩) 64 cd) (h2 : v 2 = .slice Af L cf) (hL : L ≤ 1048576) (hcd : 64 ≤ cd) (h0 : 0 ≤ a) (ha : a < 18446744073709551616) (hn1 : 1 ≤ n) (hn8 : n ≤ 8) (hnf : a < 2147418112 - (L : Int)) :
    Calls Tryz.prog 110 #[.pointer (some ⟨g, 0, none⟩), .int .u64 a, .int .i64 n, .bool true] w fun e w' => e = .returned (.slice none 0 0) ∧ w' = w := by
  have hc1 := (h.cell 1 (by omega)).trans (congrArg some h1)
  have hc2 := (h.cell 2 (by omega)).trans (congrArg some h2)
  have w1 : IntKind.u64.wrap (L : Int) = (L : Int) := by simp only [IntKind.wrap, IntKind.bits, IntKind.signed, Bool.false_and, Bool.false_eq_true, if_false]; omega
  have w2 : IntKind.u64.wrap (2147418112 - (L : Int)) = 2147418112 - (L : Int) := by simp only [IntKind.wrap, IntKind.bits, IntKind.signed, Bool.false_and, Bool.false_eq_true, if_false]; omega
  have w4 : IntKind.u64.wrap (n : Int) = (n : Int) := by simp only [IntKind.wrap, IntKind.bits, IntKind.signed, Bool.false_and, Bool.false_eq_true, if_false]; omega
  have d1 : decide (a ≥ 2147418112 - (L : Int)) = false := decide_eq_false (by omega)
  clear h h1 h2 hnf
  obtain ⟨B, hB⟩ : ∃ B : Int, 2147418112 - (L : Int) = B := ⟨_, rfl⟩
  rw [hB] at w2 d1
  go_enter Tryz.func110, Tryz.ntmps110
  go_wp2
  go_ret
  exact ⟨rfl, rfl⟩
set_option maxRecDepth 20000 in
set_option maxHeartbeats 1000000 in
theorem below_a (g : Nat) (v : Nat → Value) (Af : Option Addr) (cf L : Nat) (gd cd : Nat) (a : Int) (n : Nat) (w : World) (h : MB 74 42 w g v) (h1 : v 1 = .slice (some ⟨gd, 0, none⟩) 64 cd) (h2 : v 2 = .slice Af L cf) (hL : L ≤ 1048576) (hcd : 64 ≤ cd) (h0 : 0 ≤ a) (ha : a < 18446744073709551616) (hn1 : 1 ≤ n) (hn8 : n ≤ 8) (hnf : a < 2147418112 - (L : Int)) (hlo : a < 65536) :
    Calls Tryz.prog 110 #[.pointer (some ⟨g, 0, none⟩), .int .u64 a, .int .i64 n, .bool false] w fun e w' => e = .returned (.slice none 0 0) ∧ w' = w := by
  have hc1 := (h.cell 1 (by omega)).trans (congrArg some h1)
  have hc2 := (h.cell 2 (by omega)).trans (congrArg some h2)
  have w1 : IntKind.u64.wrap (L : Int) = (L : Int) := by simp only [IntKind.wrap, IntKind.bits, IntKind.signed, Bool.false_and, Bool.false_eq_true, if_false]; omega
  have w2 : IntKind.u64.wrap (2147418112 - (L : Int)) = 2147418112 - (L : Int) := by simp only [IntKind.wrap, IntKind.bits, IntKind.signed, Bool.false_and, Bool.false_eq_true, if_false]; omega
  have w4 : IntKind.u64.wrap (n : Int) = (n : Int) := by simp only [IntKind.wrap, IntKind.bits, IntKind.signed, Bool.false_and, Bool.false_eq_true, if_false]; omega
  have d1 : decide (a ≥ 2147418112 - (L : Int)) = false := decide_eq_false (by omega)
  have d4 : decide (a ≥ 65536) = false := decide_eq_false (by omega)
  clear h h1 h2 hnf hlo
  obtain ⟨B, hB⟩ : ∃ B : Int, 2147418112 - (L : Int) = B := ⟨_, rfl⟩
  rw [hB] at w2 d1
  go_enter Tryz.func110, Tryz.ntmps110
  go_wp2
  go_ret
  exact ⟨rfl, rfl⟩
set_option maxRecDepth 20000 in
set_option maxHeartbeats 1000000 in
theorem below_b (g : Nat) (v : Nat → Value) (Af : Option Addr) (cf L : Nat) (gd cd : Nat) (a : Int) (n : Nat) (w : World) (h : MB 74 42 w g v) (h1 : v 1 = .slice (some ⟨gd, 0, none⟩) 64 cd) (h2 : v 2 = .slice Af L cf) (hL : L ≤ 1048576) (hcd : 64 ≤ cd) (h0 : 0 ≤ a) (ha : a < 18446744073709551616) (hn1 : 1 ≤ n) (hn8 : n ≤ 8) (hnf : a < 2147418112 - (L : Int)) (hlo : 65536 ≤ a) (hgt : 65600 < a + n) :
    Calls Tryz.prog 110 #[.pointer (some ⟨g, 0, none⟩), .int .u64 a, .int .i64 n, .bool false] w fun e w' => e = .returned (.slice none 0 0) ∧ w' = w := by
  have hc1 := (h.cell 1 (by omega)).trans (congrArg some h1)
  have hc2 := (h.cell 2 (by omega)).trans (congrArg some h2)
  have w1 : IntKind.u64.wrap (L : Int) = (L : Int) := by simp only [IntKind.wrap, IntKind.bits, IntKind.signed, Bool.false_and, Bool.false_eq_true, if_false]; omega
  have w2 : IntKind.u64.wrap (2147418112 - (L : Int)) = 2147418112 - (L : Int) := by simp only [IntKind.wrap, IntKind.bits, IntKind.signed, Bool.false_and, Bool.false_eq_true, if_false]; omega
  have w4 : IntKind.u64.wrap (n : Int) = (n : Int) := by simp only [IntKind.wrap, IntKind.bits, IntKind.signed, Bool.false_and, Bool.false_eq_true, if_false]; omega
  have w3 : IntKind.u64.wrap (a - 65536) = a - 65536 := by simp only [IntKind.wrap, IntKind.bits, IntKind.signed, Bool.false_and, Bool.false_eq_true, if_false]; omega
  have w5 : IntKind.u64.wrap (a - 65536 + n) = a - 65536 + n := by simp only [IntKind.wrap, IntKind.bits, IntKind.signed, Bool.false_and, Bool.false_eq_true, if_false]; omega
  have d1 : decide (a ≥ 2147418112 - (L : Int)) = false := decide_eq_false (by omega)
  have d4 : decide (a ≥ 65536) = true := decide_eq_true (by omega)
  have d6 : decide (a - 65536 + n ≤ 64) = false := decide_eq_false (by omega)
  clear h h1 h2 hnf hlo hgt
  obtain ⟨B, hB⟩ : ∃ B : Int, 2147418112 - (L : Int) = B := ⟨_, rfl⟩
  rw [hB] at w2 d1
  obtain ⟨I, hI⟩ : ∃ I : Int, a - 65536 = I := ⟨_, rfl⟩
  rw [hI] at w3 w5 d6
  obtain ⟨J, hJ⟩ : ∃ J : Int, I + n = J := ⟨_, rfl⟩
  rw [hJ] at w5 d6
  go_enter Tryz.func110, Tryz.ntmps110
  go_wp2
  all_goals (go_ret; exact ⟨rfl, rfl⟩)
theorem none_ (g : Nat) (v : Nat → Value) (Af : Option Addr) (cf L : Nat) (gd cd : Nat) (a : Int) (n : Nat) (wr : Bool) (w : World) (h : MB 74 42 w g v) (h1 : v 1 = .slice (some ⟨gd, 0, none⟩) 64 cd) (h2 : v 2 = .slice Af L cf) (hL : L ≤ 1048576) (hcd : 64 ≤ cd) (h0 : 0 ≤ a) (ha : a < 18446744073709551616) (hn1 : 1 ≤ n) (hn8 : n ≤ 8) (hf : ¬ inFrame L a n) (hd : wr = true ∨ ¬ inData a n) :
    Calls Tryz.prog 110 #[.pointer (some ⟨g, 0, none⟩), .int .u64 a, .int .i64 n, .bool wr] w fun e w' => e = .returned (.slice none 0 0) ∧ w' = w := by
  unfold inFrame at hf
  unfold inData at hd
  by_cases hge : 2147418112 - (L : Int) ≤ a
  · cases wr
    · exact above_r g v Af cf L gd cd a n w h h1 h2 hL hcd h0 ha hn1 hn8 hge (by omega)
    · exact above_w g v Af cf L gd cd a n w h h1 h2 hL hcd h0 ha hn1 hn8 hge (by omega)
  · cases wr
    · by_cases hlo : a < 65536
      · exact below_a g v Af cf L gd cd a n w h h1 h2 hL hcd h0 ha hn1 hn8 (by omega) hlo
      · exact below_b g v Af cf L gd cd a n w h h1 h2 hL hcd h0 ha hn1 hn8 (by omega) (by omega) (by simp only [Bool.false_eq_true, false_or] at hd; omega)
    · exact below_w g v Af cf L gd cd a n w h h1 h2 hL hcd h0 ha hn1 hn8 (by omega)
end Go.Proofs.YtcgkgaibomcheaaGreat.Reg
end

section
namespace Go.Proofs.YtcgkgaibomcheaaGreat.StoreExact
open Go.RowKit PRvemuRuns Bits YtcgkgaibomcheaaGreatW.PrintWords YtcgkgaibomcheaaGreatW.PrintLast YtcgkgaibomcheaaGreatW.PrintMore
def put (w : World) (g o : Nat) (v : BitVec 64) : Nat → World
  | 0 => w
  | i + 1 => (put w g o v i).setCell ⟨g, o + i, none⟩ (.int .u8 (Bits.byteOf v i))
def putC (cs : Array Value) (o : Nat) (v : BitVec 64) : Nat → Array Value
  | 0 => cs
  | i + 1 => (putC cs o v i).setIfInBounds (o + i) (.int .u8 (Bits.byteOf v i))
theorem putC_size (cs : Array Value) (o : Nat) (v : BitVec 64) : ∀ i, (putC cs o v i).size = cs.size
  | 0 => rfl
  | i + 1 => by unfold putC; rw [Array.size_setIfInBounds, putC_size cs o v i]
theorem put_block {w : World} {g o : Nat} {v : BitVec 64} {cs : Array Value} {T : TypeId} (hb : w.heap[g]? = some (.cells cs T (0, 0))) : ∀ i, (put w g o v i).heap[g]? = some (.cells (putC cs o v i) T (0, 0))
  | 0 => hb
  | i + 1 => blk_set (put_block hb i) _ _
theorem put_other (w : World) (g o : Nat) (v : BitVec 64) (k : Nat) (hk : k ≠ g) : ∀ i, (put w g o v i).heap[k]? = w.heap[k]?
  | 0 => rfl
  | i + 1 => (Below.heap_setCell _ _ _ _ (by simpa using hk)).trans (put_other w g o v k hk i)
theorem put_size (w : World) (g o : Nat) (v : BitVec 64) : ∀ i, (put w g o v i).heap.size = w.heap.size
  | 0 => rfl
  | i + 1 => by unfold put; rw [World.size_setCell, put_size w g o v i]
theorem put_rest (w : World) (g o : Nat) (v : BitVec 64) : ∀ i, (put w g o v i).os = w.os ∧ (put w g o v i).tape = w.tape ∧ (put w g o v i).output = w.output
  | 0 => ⟨rfl, rfl, rfl⟩
  | i + 1 => put_rest w g o v i
theorem byte_div (v : BitVec 64) (i : Nat) : U v / 2 ^ (8 * i) % 256 = Bits.byteOf v i := by
  unfold U Bits.byteOf
  rw [BitVec.toNat_ushiftRight, Nat.shiftRight_eq_div_pow]
  simp
set_option maxRecDepth 100000 in
set_option maxHeartbeats 800000 in
theorem calls (g o len cap : Nat) (a n : Nat) (v : BitVec 64) (w : World) (T : TypeId) (cs : Array Value) (hb : w.heap[g]? = some (.cells cs T (0, 0))) (hs : o + len ≤ cs.size) (hl : len ≤ 1000000000000000)
    (hn1 : 1 ≤ n) (hn8 : n ≤ 8) (ha : a + n ≤ len) (t : Calls Tryz.prog 99 #[.slice (some ⟨g, o, none⟩) len cap, .int .i64 a, .int .i64 n] w fun e w' => e = .returned (.bool true) ∧ Drawn0 w w') :
    Calls Tryz.prog 111 #[.slice (some ⟨g, o, none⟩) len cap, .int .i64 a, .int .i64 n, .int .u64 (U v)] w fun e w' => e = .returned (.int .i64 0) ∧ ∃ m, w' = put (w.drewN m) g (o + a) v n := by
  have HS := Aside0.mk hs
  have HT := Aside0.mk t
  have HBK := Aside0.mk hb
  clear t hb hs
  go_enter Tryz.func111, Tryz.ntmps111
  go_wp2_with fail
  refine HT.out.mono ?_
  rintro e w1 ⟨rfl, hw1⟩
  obtain ⟨m, rfl⟩ := hw1.out
  have BK := Aside0.mk (blk_drewN HBK.out m)
  clear hw1 HBK HT
  go_wp2_with fail
  go_loopw [16] (fun v16 w' => ∃ i : Nat, i ≤ n ∧ v16 = .int .i64 i ∧ Aside0 (w' = put (w.drewN m) g (o + a) v i)) (fun v16 _ => n - (intOf v16).toNat)
  case atStart => exact ⟨0, by omega, rfl, ⟨rfl⟩⟩
  case round =>
    obtain ⟨i, hi, rfl, hw⟩ := hrel
    have hw' := hw.out
    clear hw
    subst hw'
    by_cases hlt : i < n
    · have hc : (put (w.drewN m) g (o + a) v i).cell? ⟨g, o + (a + i), none⟩ = some ((putC cs (o + a) v i)[o + (a + i)]'(by rw [putC_size]; have := HS.out; omega)) := by
        rw [blk_cell (put_block BK.out i)]
        exact Array.getElem?_eq_getElem _
      have hf := blk_frozen (put_block (o := o + a) (v := v) BK.out i) (o + (a + i))
      go_wp2
      refine ⟨⟨i + 1, by omega, by go_num, ⟨?_⟩⟩, by simp [intOf]; omega⟩
      rw [byte_div]
      show _ = (put (w.drewN m) g (o + a) v i).setCell ⟨g, o + a + i, none⟩ _
      rw [Nat.add_assoc]
    · obtain rfl : i = n := by omega
      go_wp2
      go_ret
      exact ⟨rfl, m, rfl⟩
end Go.Proofs.YtcgkgaibomcheaaGreat.StoreExact
end

section
namespace Go.Proofs.YtcgkgaibomcheaaGreat.Rd
open Go.RowKit Bits Mb Reg PRvemuRuns YtcgkgaibomcheaaGreatW.PrintWords YtcgkgaibomcheaaGreatW.PrintLast YtcgkgaibomcheaaGreatW.PrintMore
def Row (g : Nat) (l : List Int) (W : World) : Prop := ∃ cs : Array Value, W.heap[g]? = some (.cells cs 5 (0, 0)) ∧ l.length ≤ cs.size ∧ ∀ j, j < l.length → cs[j]? = some (.int .u8 (l.getD j 0))
theorem Row.of {g : Nat} {l : List Int} {W W' : World} (h : Row g l W) (hb : W'.heap[g]? = W.heap[g]?) : Row g l W' := by
  obtain ⟨cs, h1, h2⟩ := h
  exact ⟨cs, hb.trans h1, h2⟩
theorem Row.lt {g : Nat} {l : List Int} {W : World} (h : Row g l W) : g < W.heap.size := by
  obtain ⟨cs, h1, h2⟩ := h
  exact blk_lt h1
theorem Row.below {g : Nat} {l : List Int} {W W' : World} (h : Row g l W) (hb : Below W.heap.size W W') : Row g l W' := h.of (hb.block g h.lt)
theorem Row.reads {g : Nat} {l : List Int} {W : World} (h : Row g l W) (o n : Nat) (hl : o + n ≤ l.length) (hm : n ≤ 1000000000000000) : Kd.C (Kd.int .u8) W (some ⟨g, o, none⟩) n ((l.drop o).take n) := by
  obtain ⟨cs, h1, h2, h3⟩ := h
  have hlen : ((l.drop o).take n).length = n := by rw [List.length_take, List.length_drop]; omega
  refine ⟨hlen, by omega, fun hn => ⟨_, rfl, fun j p hj => ⟨[.int .u8 p], rfl, rfl, fun i u hi => ?_⟩⟩⟩
  obtain ⟨hjl, hjp⟩ := List.getElem?_eq_some_iff.1 hj
  have hi0 : i = 0 := by
    have := (List.getElem?_eq_some_iff.1 hi).1
    simpa using this
  subst hi0
  have hu : u = .int .u8 p := by simpa using hi.symm
  subst hu
  rw [hlen] at hjl
  have ea : (⟨g, o, none⟩ : Addr).add (j * (Kd.int .u8).sz + 0) = ⟨g, o + j, none⟩ := by
    show (⟨g, o, none⟩ : Addr).add (j * 1 + 0) = _
    simp [Addr.add]
  rw [ea, blk_cell h1, h3 (o + j) (by omega), ← hjp]
  rw [List.getElem_take, List.getElem_drop, List.getD_eq_getElem?_getD, List.getElem?_eq_getElem (by omega)]
  rfl
theorem isBytes_sub {l : List Int} (h : isBytes l) (o n : Nat) : isBytes ((l.drop o).take n) := fun x hx => h x (List.mem_of_mem_drop (List.mem_of_mem_take hx))
theorem ld_sub {l : List Int} (h : isBytes l) (o n : Nat) (hl : o + n ≤ l.length) : ld ((l.drop o).take n) 0 n = ld l o n := ext64 fun j hj => by
  rw [ld_at (isBytes_sub h o n) 0 n j hj, ld_at h o n j hj]
  by_cases hlt : j < 8 * n
  · rw [decide_eq_true hlt, Bool.true_and, Bool.true_and]
    congr 2
    have hq : j / 8 < n := by omega
    rw [Nat.zero_add, List.getD_eq_getElem?_getD, List.getD_eq_getElem?_getD, List.getElem?_take, if_pos hq, List.getElem?_drop]
  · rw [decide_eq_false hlt, Bool.false_and, Bool.false_and]
theorem info54 : (Tryz.prog.info? 54).map (fun i => (i.zero, i.size, i.bytes)) = some (some (.agg #[.bool false, .int .u64 0, .int .i64 0]), 3, 24) := by kernel_rfl
def atTr (v : Nat → Value) (t : Value) : Nat → Value := fun i => if i = 40 then t else v i
theorem ev_reps (W : World) (b : Nat) (ok : Nat → Prop) (x : S54) : Reps (k54.M W b ok) 3 [x] [.bool x.f0, .int .u64 x.f1, .int .i64 x.f2] := Reps.c3 (k54_mkM W b ok x) (Reps.none _ _)
def Wr (S : Nat → Prop) (W W' : World) : Prop := Kept W W' S ∧ W'.os = W.os ∧ W'.tape = W.tape ∧ W'.output = W.output
theorem Wr.refl (S : Nat → Prop) (W : World) : Wr S W W := ⟨Kept.refl _ _, rfl, rfl, rfl⟩
theorem Wr.below {S : Nat → Prop} {W W1 W2 : World} (h : Wr S W W1) (hb : Below W1.heap.size W1 W2) : Wr S W W2 := ⟨h.1.below hb, hb.os.trans h.2.1, hb.tape.trans h.2.2.1, hb.output.trans h.2.2.2⟩
theorem Wr.set {S : Nat → Prop} {W W1 : World} (h : Wr S W W1) {p : Addr} (hp : S p.block ∨ W.heap.size ≤ p.block) (u : Value) : Wr S W (W1.setCell p u) := ⟨h.1.setCell hp u, h.2⟩
theorem Wr.then_ {S T : Nat → Prop} {W W1 W2 : World} (h : Wr S W W1) (k : Wr T W1 W2) (hs : ∀ k, T k → S k ∨ W.heap.size ≤ k) : Wr S W W2 := ⟨h.1.then_ k.1 hs, k.2.1.trans h.2.1, k.2.2.1.trans h.2.2.1, k.2.2.2.trans h.2.2.2⟩
set_option maxRecDepth 20000 in
set_option maxHeartbeats 1000000 in
theorem reads (b : Nat) (g : Nat) (v : Nat → Value) (vt : Value) (tr : List S54) (okt : Nat → Prop) (gb o cb : Nat) (l : List Int) (a : Int) (n : Nat) (w : World) (h : MB 74 42 w g v) (ht : v 40 = vt) (hT : Kd.R k54 54 w b okt vt tr) (hfr : ∀ k, w.heap.size ≤ k → okt k)
    (hb : b ≤ w.heap.size) (hlen : tr.length ≤ 1000000000) (hrow : Row gb l w) (hby : isBytes l) (hn1 : 1 ≤ n) (hn8 : n ≤ 8) (ho : o + n ≤ l.length) (hoc : n ≤ cb) (hgb : gb ≠ g)
    (hreg : Calls Tryz.prog 110 #[.pointer (some ⟨g, 0, none⟩), .int .u64 a, .int .i64 n, .bool false] w fun e w' => e = .returned (.slice (some ⟨gb, o, none⟩) n cb) ∧ w' = w) :
    Calls Tryz.prog 96 #[.pointer (some ⟨g, 0, none⟩), .int .u64 a, .int .i64 n] w fun e w' => e = .returned (.int .u64 (U (ld l o n))) ∧ ∃ vt', MB 74 42 w' g (atTr v vt') ∧ Kd.R k54 54 w' b okt vt' (tr ++ [⟨false, a, n⟩]) ∧ Wr (fun k => k = g ∨ some k = vt.ownBlock) w w' := by
  have qT : ∀ (w : World) (a : Option Addr) (n c n' c' : Nat), (binOp .eql 22 (.slice a n c) (.slice none n' c')).run Tryz.prog w = .ok (.bool a.isNone) w := fun w a n c n' c' => Lib.run_eql_slice_nil w _ _ a n c n' c' Tryz.underlying22
  have HREG := Aside0.mk hreg
  have HT := Aside0.mk hT
  have HM := Aside0.mk h
  have HR := Aside0.mk hrow
  have HFR := Aside0.mk hfr
  have LC := Aside0.mk (show ∀ W, Row gb l W → Calls Tryz.prog 83 #[.slice (some ⟨gb, o, none⟩) n cb, .int .i64 0, .int .i64 n] W fun e w' => e = .returned (.tuple #[.int .u64 (U (ld l o n)), .int .i64 0]) ∧ Drawn0 W w' from fun W hW => by
    have hl : ((l.drop o).take n).length = n := by rw [List.length_take, List.length_drop]; omega
    have hc := word_Load.calls 100 (some ⟨gb, o, none⟩) cb ((l.drop o).take n) 0 n _ 0 W (by rw [hl]; exact hW.reads o n ho (by omega)) (by rw [hl]; exact hoc) (F1.word_Load_yes 100 (by omega) _ (by omega) (isBytes_sub hby o n) 0 n ⟨by omega, by omega, by omega, by omega⟩)
    have e0 : (0 : Int).toNat = 0 := rfl
    rw [hl, Int.toNat_natCast, e0, ld_sub hby o n ho] at hc
    exact hc)
  have c40 := (h.cell 40 (by omega)).trans (congrArg some ht)
  clear hreg hT h hrow ht
  go_enter Tryz.func96, Tryz.ntmps96
  go_wp2_with fail
  refine HREG.out.mono ?_
  rintro e w1 ⟨rfl, rfl⟩
  clear HREG
  go_wp2_with (first | ((with_reducible refine gate_dst (N := 26) rfl ?_); refine Kd.R_lit k54 (w0 := w1) w1.heap.size 54 ?hg (N := 26) ?hd (xs := [(⟨false, a, n⟩ : S54)]) (inner := [.bool false, .int .u64 a, .int .i64 n]) (ok := fun _ => True) (okp := fun _ => True) ?hr ?hp (fun _ hk => hk) trivial (Below.refl _ _) (Nat.le_refl _) (by simp) ?_; (case hd => rfl); (case hg => rfl); (case hr => first | (go_simp; done) | (go_simp; rfl)); (case hp => exact ev_reps _ _ _ _); intro v26 w26 ho26 hb26 hgx_ hnx_; clear hgx_ hnx_) | ((with_reducible refine gate_builtin (b := .append) (xs := #[.tmp 22, .tmp 26]) rfl ?_); at_builtin; obtain ⟨A26, c26, rfl, hc26, hC26⟩ := Kd.R_reads ho26; refine Kd.R_append_rows k54 (Rr := k54.K w26) (w0 := w1) b rfl (.tmp 22) (.tmp 26) 29 54 (.agg #[.bool false, .int .u64 0, .int .i64 0]) 24 rfl Tryz.underlying29 info54 rfl (by decide) (by omega) vt tr [(⟨false, a, n⟩ : S54)] _ _ _ okt (fun _ => False) rfl rfl ?aO ?aR ?aK (fun _ h => h.elim) ?aF ?aB ?aS ?aL ?_; (case aO => exact Kd.R_below HT.out hb26); (case aR => exact hC26); (case aK => exact fun x cs h => by rw [k54_open h]; exact k54_mkM _ _ _ x); (case aF => exact fun k hk => HFR.out k (Nat.le_trans hb26.size hk)); (case aB => exact hb26.mono hb); (case aS => exact Nat.le_trans hb hb26.size); (case aL => simp only [List.length_cons, List.length_nil]; omega); intro v27 w27 ho27 hb27 hg27 hat27; obtain ⟨A27, c27, rfl, hc27, hC27⟩ := Kd.R_reads ho27; have M27 : MB 74 42 w27 g v := (by (obtain ⟨cs, q1, q2⟩ := HM.out.below hb26; exact ⟨cs, blk_grown q1 hg27 (Kd.R_ne (Kd.R_below HT.out hb26) q1 (by decide)), q2⟩)); have R27 : Row gb l w27 := (by (obtain ⟨cs, q1, q2⟩ := HR.out.below hb26; exact ⟨cs, blk_grown q1 hg27 (Kd.R_ne (Kd.R_below HT.out hb26) q1 (by decide)), q2⟩)); have x40 := M27.cell 40 (by omega); have f40 := M27.frozen 40; have HM27 := Aside0.mk M27; have HR27 := Aside0.mk R27; have HO27 := Aside0.mk ho27; have HB27 := Aside0.mk hb27; have HG27 := Aside0.mk hg27; have HB26 := Aside0.mk hb26; clear M27 R27 ho27 hb27 hg27 hat27 hc27 hC27 hC26 hc26 ho26 hb26))
  have el : (tr ++ [(⟨false, a, n⟩ : S54)]).length = tr.length + 1 := by rw [List.length_append]; rfl
  rw [el] at HO27
  have HM28 := Aside0.mk (HM27.out.put 40 (.slice A27 (tr.length + 1) c27) (atTr v (.slice A27 (tr.length + 1) c27)) rfl (fun i _ hi => if_neg hi))
  have HR28 := Aside0.mk (HR27.out.of (Below.heap_setCell w27 ⟨g, 40, none⟩ (.slice A27 (tr.length + 1) c27) gb hgb))
  have HO28 := Aside0.mk (show Kd.R k54 54 (w27.setCell ⟨g, 40, none⟩ (.slice A27 (tr.length + 1) c27)) b okt (.slice A27 (tr.length + 1) c27) (tr ++ [⟨false, a, n⟩]) from by
    obtain ⟨cs, q1, _⟩ := HM27.out
    exact Kd.R_set HO27.out q1 (by decide) 40 _)
  have HW28 := Aside0.mk (show Wr (fun k => k = g ∨ some k = vt.ownBlock) w1 (w27.setCell ⟨g, 40, none⟩ (.slice A27 (tr.length + 1) c27)) from by
    refine Wr.set (p := ⟨g, 40, none⟩) ?_ (.inl (.inl rfl)) _
    refine ⟨Kept.of_grown HG27.out (Kept.of_below HB26.out _) (fun k hk => .inl (.inr hk.symm)), HB27.out.os, HB27.out.tape, HB27.out.output⟩)
  clear HM27 HR27 HO27 HG27 HB27 HB26 x40 f40 el HR HM HT HFR c40 hfr
  refine (LC.out _ HR28.out).mono ?_
  rintro e w29 ⟨rfl, hd⟩
  have hb29 := hd.below
  have HM29 := Aside0.mk (HM28.out.below hb29)
  have HO29 := Aside0.mk (Kd.R_below HO28.out hb29)
  have HW29 := Aside0.mk (HW28.out.below hb29)
  clear HM28 HO28 HW28 HR28 LC hd hb29
  go_wp2
  go_ret
  exact ⟨rfl, _, HM29.out, HO29.out, HW29.out⟩
end Go.Proofs.YtcgkgaibomcheaaGreat.Rd
end
