/- Joined out of this claim's texts: RTwo, Ends, ROne, ROne2, Find, RDoes. Conditions: those of each theorem. -/
import Derived.Test.YtcgkgaibomcheaaGreatZC01
import Derived.Test.YtcgkgaibomcheaaGreatZC03
import Derived.Test.YtcgkgaibomcheaaGreatZC07
import Derived.Deep.QuietTactic
import Derived.BigQuiet
import Derived.StillTailTactics
import Derived.Test.YtcgkgaibomcheaaGreatZC04
set_option linter.unusedVariables false
set_option linter.unusedSimpArgs false
section
namespace Go.Proofs.YtcgkgaibomcheaaGreat.RTwo
open Go.RowKit Bits PRvemuRuns YtcgkgaibomcheaaGreatW.PrintWords YtcgkgaibomcheaaGreatW.PrintLast YtcgkgaibomcheaaGreatW.PrintMore
theorem short_eq (k : Nat) (hk : 65 ≤ k) (v : BitVec 64) : ravelinref16_short.f k (U v) = some (U (Alu.s32 v)) := by
  unfold ravelinref16_short.f
  rw [F1.ref_Sext_eq k hk v 32]
  simp only [Option.bind_some]
  rw [wrapU_toInt]
  rfl
def two (op : Nat) (a b : BitVec 64) : Option (BitVec 64) :=
  if op = 16 then some (a + b) else if op = 17 then some (a - b) else if op = 18 then some (a &&& b) else if op = 19 then some (a ||| b) else if op = 20 then some (a ^^^ b) else
  if op = 21 then some (a <<< (b &&& 63#64).toNat) else if op = 22 then some (a >>> (b &&& 63#64).toNat) else if op = 23 then some (Alu.s32 (a + b)) else if op = 24 then some (Alu.s32 (a - b)) else
  if op = 25 then some (Alu.s32 (a * b)) else if op = 27 then some (Alu.s32 (a <<< (b &&& 31#64).toNat)) else if op = 28 then some (Alu.s32 (Alu.low a >>> (b &&& 31#64).toNat)) else
  if U (Alu.low b) = 0 then none else some (Alu.s32 (BitVec.ofNat 64 ((Alu.low a).toNat / (Alu.low b).toNat)))
theorem and63 (b : BitVec 64) : Go.bits .and .u64 (U b) 63 = U (b &&& 63#64) := and_U b 63#64
theorem and31 (b : BitVec 64) : Go.bits .and .u64 (U b) 31 = U (b &&& 31#64) := and_U b 31#64
theorem andlow (a : BitVec 64) : Go.bits .and .u64 (U a) 4294967295 = U (Alu.low a) := by
  have h := and_U a 4294967295#64
  have e : a &&& 4294967295#64 = Alu.low a := by
    apply BitVec.eq_of_toNat_eq
    unfold Alu.low
    rw [BitVec.toNat_and, show (4294967295#64).toNat = 2 ^ 32 - 1 from by decide, Nat.and_two_pow_sub_one_eq_mod, BitVec.toNat_ofNat]
    omega
  rw [e] at h
  exact h
theorem shlk (a b : BitVec 64) : shl .u64 (U a) (U b) = U (a <<< b.toNat) := by rw [shl_U, Alu.toNatU]
theorem shrk (a b : BitVec 64) : shr .u64 (U a) (U b) = U (a >>> b.toNat) := by rw [shr_U, Alu.toNatU]
theorem quo (a b : BitVec 64) : (U (Alu.low a) / U (Alu.low b)) % 4294967296 = U (BitVec.ofNat 64 ((Alu.low a).toNat / (Alu.low b).toNat)) := by
  have e : U (Alu.low a) / U (Alu.low b) = (((Alu.low a).toNat / (Alu.low b).toNat : Nat) : Int) := by unfold U; exact (Int.natCast_ediv _ _).symm
  have hq : (Alu.low a).toNat / (Alu.low b).toNat ≤ (Alu.low a).toNat := Nat.div_le_self _ _
  have hl : (Alu.low a).toNat < 4294967296 := by
    unfold Alu.low
    rw [BitVec.toNat_ofNat]
    omega
  rw [e]
  generalize (Alu.low a).toNat / (Alu.low b).toNat = q at hq
  unfold U
  rw [BitVec.toNat_ofNat]
  omega
theorem two_eq (k : Nat) (hk : 65 ≤ k) (op : Nat) (h1 : 16 ≤ op) (h2 : op ≤ 28) (a b : BitVec 64) : ravelinref16_two.f k (op : Int) (U a) (U b) = some (match two op a b with | some v => (U v, 0) | none => (0, 8)) := by
  have hop : op = 16 ∨ op = 17 ∨ op = 18 ∨ op = 19 ∨ op = 20 ∨ op = 21 ∨ op = 22 ∨ op = 23 ∨ op = 24 ∨ op = 25 ∨ op = 26 ∨ op = 27 ∨ op = 28 := by omega
  have n63 := U_nonneg (b &&& 63#64)
  have n31 := U_nonneg (b &&& 31#64)
  rcases hop with rfl | rfl | rfl | rfl | rfl | rfl | rfl | rfl | rfl | rfl | rfl | rfl | rfl
  all_goals (unfold ravelinref16_two.f)
  all_goals (simp [two, Alu.addU, Alu.subU, Alu.mulU, and_U, or_U, xor_U, and63, and31, andlow, shlk, shrk, n63, n31, short_eq k hk, Alu.lowU, quo])
  all_goals (split <;> simp_all)
def ask (op : Nat) (a b : BitVec 64) : Bool := if op = 29 then decide (a = b) else if op = 30 then !decide (a = b) else if op = 31 then decide (a.toNat < b.toNat) else decide (b.toNat ≤ a.toNat)
theorem asks_eq (op : Nat) (h1 : 29 ≤ op) (h2 : op ≤ 32) (a b : BitVec 64) : ravelinref16_asks.f (op : Int) (U a) (U b) = some (ask op a b) := by
  have hop : op = 29 ∨ op = 30 ∨ op = 31 ∨ op = 32 := by omega
  rcases hop with rfl | rfl | rfl | rfl
  all_goals (unfold ravelinref16_asks.f ask)
  · simp [Jump.U_eq]
  · simp [Jump.U_ne]
  · simp only [show ¬ (31 : Nat) = 29 by omega, show ¬ (31 : Nat) = 30 by omega, if_false, if_true, ← Jump.U_lt' a b]
    rfl
  · simp only [show ¬ (32 : Nat) = 29 by omega, show ¬ (32 : Nat) = 30 by omega, show ¬ (32 : Nat) = 31 by omega, if_false, ← Jump.U_ge a b]
    rfl
end Go.Proofs.YtcgkgaibomcheaaGreat.RTwo
end

section
namespace Go.Proofs.YtcgkgaibomcheaaGreat.Ends
open Go.RowKit Bits Alu Mb YtcgkgaibomcheaaGreatW.PrintWords YtcgkgaibomcheaaGreatW.PrintLast YtcgkgaibomcheaaGreatW.PrintMore
def fin (v : Nat → Value) (e : Int) : Nat → Value := fun i => if i = 39 then .int .i64 e else if i = 38 then .bool true else v i
theorem fin_set {T n : Nat} {W : World} {g : Nat} {v : Nat → Value} (h : MB T n W g v) (e : Int) : MB T n ((W.setCell ⟨g, 38, none⟩ (.bool true)).setCell ⟨g, 39, none⟩ (.int .i64 e)) g (fin v e) := by
  have h1 := h.put 38 (.bool true) (fun i => if i = 38 then .bool true else v i) rfl (fun i _ hi => if_neg hi)
  exact h1.put 39 (.int .i64 e) (fin v e) rfl (fun i _ hi => if_neg hi)
def place (pc : BitVec 64) : Int := wrap64 (U (pc - 4194304#64))
set_option maxRecDepth 20000 in
theorem ends (g : Nat) (v : Nat → Value) (e : Int) (w : World) (h : MB 74 42 w g v) :
    Calls Tryz.prog 39 #[.pointer (some ⟨g, 0, none⟩), .int .i64 e] w fun e' w' => e' = .returned (.bool true) ∧ MB 74 42 w' g (fin v e) ∧ Only g w w' := by
  have c1 := h.cell 38 (by omega)
  have c2 := h.cell 39 (by omega)
  have f1 := h.frozen 38
  have f2 := h.frozen 39
  have HM := Aside0.mk (fin_set h e)
  have HO := Aside0.mk (((Only.refl g w).set 38 (.bool true)).set 39 (.int .i64 e))
  clear h
  go_enter Tryz.func39, Tryz.ntmps39
  go_wp2
  go_ret
  exact ⟨rfl, HM.out, HO.out⟩
set_option maxRecDepth 20000 in
theorem fails (g : Nat) (v : Nat → Value) (e : Int) (w : World) (h : MB 76 41 w g v) :
    Calls Tryz.prog 42 #[.pointer (some ⟨g, 0, none⟩), .int .i64 e] w fun e' w' => e' = .returned (.bool true) ∧ MB 76 41 w' g (fin v e) ∧ Only g w w' := by
  have c1 := h.cell 38 (by omega)
  have c2 := h.cell 39 (by omega)
  have f1 := h.frozen 38
  have f2 := h.frozen 39
  have HM := Aside0.mk (fin_set h e)
  have HO := Aside0.mk (((Only.refl g w).set 38 (.bool true)).set 39 (.int .i64 e))
  clear h
  go_enter Tryz.func42, Tryz.ntmps42
  go_wp2
  go_ret
  exact ⟨rfl, HM.out, HO.out⟩
set_option maxRecDepth 20000 in
theorem place_emu (g : Nat) (v : Nat → Value) (pc : BitVec 64) (w : World) (h : MB 74 42 w g v) (hp : v 35 = .int .u64 (U pc)) :
    Calls Tryz.prog 23 #[.pointer (some ⟨g, 0, none⟩)] w fun e' w' => e' = .returned (.int .i64 (place pc)) ∧ w' = w := by
  have c1 := (h.cell 35 (by omega)).trans (congrArg some hp)
  have hs : IntKind.u64.wrap (U pc - 4194304) = U (pc - 4194304#64) := subU pc 4194304#64
  clear h hp
  go_enter Tryz.func23, Tryz.ntmps23
  go_wp2
  go_ret
  exact ⟨rfl, rfl⟩
set_option maxRecDepth 20000 in
theorem place_ref (g : Nat) (v : Nat → Value) (pc : BitVec 64) (w : World) (h : MB 76 41 w g v) (hp : v 35 = .int .u64 (U pc)) :
    Calls Tryz.prog 24 #[.pointer (some ⟨g, 0, none⟩)] w fun e' w' => e' = .returned (.int .i64 (place pc)) ∧ w' = w := by
  have c1 := (h.cell 35 (by omega)).trans (congrArg some hp)
  have hs : IntKind.u64.wrap (U pc - 4194304) = U (pc - 4194304#64) := subU pc 4194304#64
  clear h hp
  go_enter Tryz.func24, Tryz.ntmps24
  go_wp2
  go_ret
  exact ⟨rfl, rfl⟩
def setR (v : Nat → Value) (rd : Nat) (r : BitVec 64) : Nat → Value := fun i => if i = 3 + rd then .int .u64 (U r) else v i
set_option maxRecDepth 20000 in
theorem set_ (g : Nat) (v : Nat → Value) (rd : Nat) (r : BitVec 64) (w : World) (h : MB 76 41 w g v) (hrd : rd < 32) :
    Calls Tryz.prog 90 #[.pointer (some ⟨g, 0, none⟩), .int .i64 rd, .int .u64 (U r)] w fun e' w' => e' = .returned (.tuple #[]) ∧ MB 76 41 w' g (if rd = 0 then v else setR v rd r) ∧ Only g w w' := by
  have c1 := h.cell (3 + rd) (by omega)
  have f1 := h.frozen (3 + rd)
  have HM := Aside0.mk (h.put (3 + rd) (.int .u64 (U r)) (setR v rd r) (if_pos rfl) (fun i _ hi => if_neg hi))
  have HO := Aside0.mk ((Only.refl g w).set (3 + rd) (.int .u64 (U r)))
  have HH := Aside0.mk h
  have q0 : (0 : Int) ≤ (rd : Int) := by omega
  have q1 : (rd : Int) < 32 := by omega
  clear h
  by_cases h0 : rd = 0
  · subst h0
    go_enter Tryz.func90, Tryz.ntmps90
    go_wp2
    go_end0
    exact ⟨rfl, HH.out, Only.refl _ _⟩
  · have h0b : ((rd : Int) != 0) = true := by simpa using h0
    rw [if_neg h0]
    go_enter Tryz.func90, Tryz.ntmps90
    go_wp2
    go_end0
    exact ⟨rfl, HM.out, HO.out⟩
end Go.Proofs.YtcgkgaibomcheaaGreat.Ends
end

section
namespace Go.Proofs.YtcgkgaibomcheaaGreat.ROne
open Go.RowKit Bits Mb Ends RTwo PRvemuRuns YtcgkgaibomcheaaGreatW.PrintWords YtcgkgaibomcheaaGreatW.PrintLast YtcgkgaibomcheaaGreatW.PrintMore
def reg (v : Nat → Value) (rd : Nat) (r : BitVec 64) : Nat → Value := if rd = 0 then v else setR v rd r
theorem reg_pc (v : Nat → Value) (rd : Nat) (r : BitVec 64) (h : rd < 32) : reg v rd r 35 = v 35 := by
  unfold reg setR
  split
  · rfl
  · exact if_neg (by omega)
theorem short_at (v : BitVec 64) (w : World) : Calls Tryz.prog 106 #[.int .u64 (U v)] w fun e w' => e = .returned (.int .u64 (U (Alu.s32 v))) ∧ Below w.heap.size w w' :=
  (ravelinref16_short.calls 100 (U v) _ w (short_eq 100 (by omega) v)).mono fun e w' h => ⟨h.1, h.2.below⟩
set_option maxRecDepth 20000 in
set_option maxHeartbeats 1000000 in
theorem one_1 (g : Nat) (v : Nat → Value) (rd : Nat) (s1 s2 imm : Int) (pc a k : BitVec 64) (w : World) (h : MB 76 41 w g v) (hp : v 35 = .int .u64 (U pc)) (hrd : rd < 32) :
    Calls Tryz.prog 93 #[.pointer (some ⟨g, 0, none⟩), .agg #[.int .i64 1, .int .i64 rd, .int .i64 s1, .int .i64 s2, .int .i64 imm], .int .u64 (U a), .int .u64 (U k)] w fun e w' => e = .returned (.tuple #[.int .u64 (U (pc + 4#64)), .int .i64 0]) ∧ MB 76 41 w' g (reg v rd (Alu.s32 (k <<< 12))) ∧ Only g w w' := by
  have hf := Alu.shl12 k
  have HB := Aside0.mk (below_alloc (Below.refl w.heap.size w) (.cells #[.int .i64 1, .int .i64 rd, .int .i64 s1, .int .i64 s2, .int .i64 imm] 42))
  have HX := Aside0.mk (blk_new w (.cells #[.int .i64 1, .int .i64 rd, .int .i64 s1, .int .i64 s2, .int .i64 imm] 42))
  have x0 := blk_cell HX.out 0
  have x1 := blk_cell HX.out 1
  simp only [List.getElem?_toArray, List.getElem?_cons_zero, List.getElem?_cons_succ] at x0 x1
  have HM := Aside0.mk (h.below HB.out)
  have HP := Aside0.mk hp
  clear h hp
  go_enter Tryz.func93, Tryz.ntmps93
  go_wp2_with fail
  refine (short_at (k <<< 12) _).mono ?_
  rintro e w2 ⟨rfl, hb⟩
  have HB2 := Aside0.mk (below_step HB.out hb)
  have HM2 := Aside0.mk (HM.out.below hb)
  have HX2 := blk_below HX.out hb
  have y1 := blk_cell HX2 1
  simp only [List.getElem?_toArray, List.getElem?_cons_zero, List.getElem?_cons_succ] at y1
  clear x0 x1 HX hb HM HB HX2
  have HM := HM2
  have HB := HB2
  clear HM2 HB2 hf
  go_wp2_with fail
  refine (set_ g v rd (Alu.s32 (k <<< 12)) _ HM.out hrd).mono ?_
  rintro e w3 ⟨rfl, hm, ho⟩
  have HM3 := Aside0.mk (show MB 76 41 w3 g (reg v rd (Alu.s32 (k <<< 12))) from hm)
  have HO3 := Aside0.mk (((Only.refl g w).below HB.out).then_ ho)
  have c35 := (HM3.out.cell 35 (by omega)).trans (congrArg some ((reg_pc v rd _ hrd).trans HP.out))
  have h4 : IntKind.u64.wrap (U pc + 4) = U (pc + 4#64) := Alu.addU pc 4#64
  clear hm ho y1
  go_wp2
  go_ret2
  exact ⟨rfl, HM3.out, HO3.out⟩
set_option maxRecDepth 20000 in
set_option maxHeartbeats 1000000 in
theorem one_2 (g : Nat) (v : Nat → Value) (rd : Nat) (s1 s2 imm : Int) (pc a k : BitVec 64) (w : World) (h : MB 76 41 w g v) (hp : v 35 = .int .u64 (U pc)) (hrd : rd < 32) :
    Calls Tryz.prog 93 #[.pointer (some ⟨g, 0, none⟩), .agg #[.int .i64 2, .int .i64 rd, .int .i64 s1, .int .i64 s2, .int .i64 imm], .int .u64 (U a), .int .u64 (U k)] w fun e w' => e = .returned (.tuple #[.int .u64 (U (pc + 4#64)), .int .i64 0]) ∧ MB 76 41 w' g (reg v rd (a + k)) ∧ Only g w w' := by
  have hf := Alu.addU a k
  have HB := Aside0.mk (below_alloc (Below.refl w.heap.size w) (.cells #[.int .i64 2, .int .i64 rd, .int .i64 s1, .int .i64 s2, .int .i64 imm] 42))
  have HX := Aside0.mk (blk_new w (.cells #[.int .i64 2, .int .i64 rd, .int .i64 s1, .int .i64 s2, .int .i64 imm] 42))
  have x0 := blk_cell HX.out 0
  have x1 := blk_cell HX.out 1
  simp only [List.getElem?_toArray, List.getElem?_cons_zero, List.getElem?_cons_succ] at x0 x1
  have HM := Aside0.mk (h.below HB.out)
  have HP := Aside0.mk hp
  clear h hp
  go_enter Tryz.func93, Tryz.ntmps93
  go_wp2_with fail
  refine (set_ g v rd (a + k) _ HM.out hrd).mono ?_
  rintro e w3 ⟨rfl, hm, ho⟩
  have HM3 := Aside0.mk (show MB 76 41 w3 g (reg v rd (a + k)) from hm)
  have HO3 := Aside0.mk (((Only.refl g w).below HB.out).then_ ho)
  have c35 := (HM3.out.cell 35 (by omega)).trans (congrArg some ((reg_pc v rd _ hrd).trans HP.out))
  have h4 : IntKind.u64.wrap (U pc + 4) = U (pc + 4#64) := Alu.addU pc 4#64
  clear hm ho x0 x1
  go_wp2
  go_ret2
  exact ⟨rfl, HM3.out, HO3.out⟩
set_option maxRecDepth 20000 in
set_option maxHeartbeats 1000000 in
theorem one_6 (g : Nat) (v : Nat → Value) (rd : Nat) (s1 s2 imm : Int) (pc a k : BitVec 64) (w : World) (h : MB 76 41 w g v) (hp : v 35 = .int .u64 (U pc)) (hrd : rd < 32) :
    Calls Tryz.prog 93 #[.pointer (some ⟨g, 0, none⟩), .agg #[.int .i64 6, .int .i64 rd, .int .i64 s1, .int .i64 s2, .int .i64 imm], .int .u64 (U a), .int .u64 (U k)] w fun e w' => e = .returned (.tuple #[.int .u64 (U (pc + 4#64)), .int .i64 0]) ∧ MB 76 41 w' g (reg v rd (a ^^^ k)) ∧ Only g w w' := by
  have hf := xor_U a k
  have HB := Aside0.mk (below_alloc (Below.refl w.heap.size w) (.cells #[.int .i64 6, .int .i64 rd, .int .i64 s1, .int .i64 s2, .int .i64 imm] 42))
  have HX := Aside0.mk (blk_new w (.cells #[.int .i64 6, .int .i64 rd, .int .i64 s1, .int .i64 s2, .int .i64 imm] 42))
  have x0 := blk_cell HX.out 0
  have x1 := blk_cell HX.out 1
  simp only [List.getElem?_toArray, List.getElem?_cons_zero, List.getElem?_cons_succ] at x0 x1
  have HM := Aside0.mk (h.below HB.out)
  have HP := Aside0.mk hp
  clear h hp
  go_enter Tryz.func93, Tryz.ntmps93
  go_wp2_with fail
  refine (set_ g v rd (a ^^^ k) _ HM.out hrd).mono ?_
  rintro e w3 ⟨rfl, hm, ho⟩
  have HM3 := Aside0.mk (show MB 76 41 w3 g (reg v rd (a ^^^ k)) from hm)
  have HO3 := Aside0.mk (((Only.refl g w).below HB.out).then_ ho)
  have c35 := (HM3.out.cell 35 (by omega)).trans (congrArg some ((reg_pc v rd _ hrd).trans HP.out))
  have h4 : IntKind.u64.wrap (U pc + 4) = U (pc + 4#64) := Alu.addU pc 4#64
  clear hm ho x0 x1
  go_wp2
  go_ret2
  exact ⟨rfl, HM3.out, HO3.out⟩
set_option maxRecDepth 20000 in
set_option maxHeartbeats 1000000 in
theorem one_5 (g : Nat) (v : Nat → Value) (rd : Nat) (s1 s2 imm : Int) (pc a k : BitVec 64) (w : World) (h : MB 76 41 w g v) (hp : v 35 = .int .u64 (U pc)) (hrd : rd < 32) :
    Calls Tryz.prog 93 #[.pointer (some ⟨g, 0, none⟩), .agg #[.int .i64 5, .int .i64 rd, .int .i64 s1, .int .i64 s2, .int .i64 imm], .int .u64 (U a), .int .u64 (U k)] w fun e w' => e = .returned (.tuple #[.int .u64 (U (pc + 4#64)), .int .i64 0]) ∧ MB 76 41 w' g (reg v rd (a ||| k)) ∧ Only g w w' := by
  have hf := or_U a k
  have HB := Aside0.mk (below_alloc (Below.refl w.heap.size w) (.cells #[.int .i64 5, .int .i64 rd, .int .i64 s1, .int .i64 s2, .int .i64 imm] 42))
  have HX := Aside0.mk (blk_new w (.cells #[.int .i64 5, .int .i64 rd, .int .i64 s1, .int .i64 s2, .int .i64 imm] 42))
  have x0 := blk_cell HX.out 0
  have x1 := blk_cell HX.out 1
  simp only [List.getElem?_toArray, List.getElem?_cons_zero, List.getElem?_cons_succ] at x0 x1
  have HM := Aside0.mk (h.below HB.out)
  have HP := Aside0.mk hp
  clear h hp
  go_enter Tryz.func93, Tryz.ntmps93
  go_wp2_with fail
  refine (set_ g v rd (a ||| k) _ HM.out hrd).mono ?_
  rintro e w3 ⟨rfl, hm, ho⟩
  have HM3 := Aside0.mk (show MB 76 41 w3 g (reg v rd (a ||| k)) from hm)
  have HO3 := Aside0.mk (((Only.refl g w).below HB.out).then_ ho)
  have c35 := (HM3.out.cell 35 (by omega)).trans (congrArg some ((reg_pc v rd _ hrd).trans HP.out))
  have h4 : IntKind.u64.wrap (U pc + 4) = U (pc + 4#64) := Alu.addU pc 4#64
  clear hm ho x0 x1
  go_wp2
  go_ret2
  exact ⟨rfl, HM3.out, HO3.out⟩
set_option maxRecDepth 20000 in
set_option maxHeartbeats 1000000 in
theorem one_4 (g : Nat) (v : Nat → Value) (rd : Nat) (s1 s2 imm : Int) (pc a k : BitVec 64) (w : World) (h : MB 76 41 w g v) (hp : v 35 = .int .u64 (U pc)) (hrd : rd < 32) :
    Calls Tryz.prog 93 #[.pointer (some ⟨g, 0, none⟩), .agg #[.int .i64 4, .int .i64 rd, .int .i64 s1, .int .i64 s2, .int .i64 imm], .int .u64 (U a), .int .u64 (U k)] w fun e w' => e = .returned (.tuple #[.int .u64 (U (pc + 4#64)), .int .i64 0]) ∧ MB 76 41 w' g (reg v rd (a &&& k)) ∧ Only g w w' := by
  have hf := and_U a k
  have HB := Aside0.mk (below_alloc (Below.refl w.heap.size w) (.cells #[.int .i64 4, .int .i64 rd, .int .i64 s1, .int .i64 s2, .int .i64 imm] 42))
  have HX := Aside0.mk (blk_new w (.cells #[.int .i64 4, .int .i64 rd, .int .i64 s1, .int .i64 s2, .int .i64 imm] 42))
  have x0 := blk_cell HX.out 0
  have x1 := blk_cell HX.out 1
  simp only [List.getElem?_toArray, List.getElem?_cons_zero, List.getElem?_cons_succ] at x0 x1
  have HM := Aside0.mk (h.below HB.out)
  have HP := Aside0.mk hp
  clear h hp
  go_enter Tryz.func93, Tryz.ntmps93
  go_wp2_with fail
  refine (set_ g v rd (a &&& k) _ HM.out hrd).mono ?_
  rintro e w3 ⟨rfl, hm, ho⟩
  have HM3 := Aside0.mk (show MB 76 41 w3 g (reg v rd (a &&& k)) from hm)
  have HO3 := Aside0.mk (((Only.refl g w).below HB.out).then_ ho)
  have c35 := (HM3.out.cell 35 (by omega)).trans (congrArg some ((reg_pc v rd _ hrd).trans HP.out))
  have h4 : IntKind.u64.wrap (U pc + 4) = U (pc + 4#64) := Alu.addU pc 4#64
  clear hm ho x0 x1
  go_wp2
  go_ret2
  exact ⟨rfl, HM3.out, HO3.out⟩
set_option maxRecDepth 20000 in
set_option maxHeartbeats 1000000 in
theorem one_3 (g : Nat) (v : Nat → Value) (rd : Nat) (s1 s2 imm : Int) (pc a k : BitVec 64) (w : World) (h : MB 76 41 w g v) (hp : v 35 = .int .u64 (U pc)) (hrd : rd < 32) :
    Calls Tryz.prog 93 #[.pointer (some ⟨g, 0, none⟩), .agg #[.int .i64 3, .int .i64 rd, .int .i64 s1, .int .i64 s2, .int .i64 imm], .int .u64 (U a), .int .u64 (U k)] w fun e w' => e = .returned (.tuple #[.int .u64 (U (pc + 4#64)), .int .i64 0]) ∧ MB 76 41 w' g (reg v rd (Alu.s32 (a + k))) ∧ Only g w w' := by
  have hf := Alu.addU a k
  have HB := Aside0.mk (below_alloc (Below.refl w.heap.size w) (.cells #[.int .i64 3, .int .i64 rd, .int .i64 s1, .int .i64 s2, .int .i64 imm] 42))
  have HX := Aside0.mk (blk_new w (.cells #[.int .i64 3, .int .i64 rd, .int .i64 s1, .int .i64 s2, .int .i64 imm] 42))
  have x0 := blk_cell HX.out 0
  have x1 := blk_cell HX.out 1
  simp only [List.getElem?_toArray, List.getElem?_cons_zero, List.getElem?_cons_succ] at x0 x1
  have HM := Aside0.mk (h.below HB.out)
  have HP := Aside0.mk hp
  clear h hp
  go_enter Tryz.func93, Tryz.ntmps93
  go_wp2_with fail
  refine (short_at (a + k) _).mono ?_
  rintro e w2 ⟨rfl, hb⟩
  have HB2 := Aside0.mk (below_step HB.out hb)
  have HM2 := Aside0.mk (HM.out.below hb)
  have HX2 := blk_below HX.out hb
  have y1 := blk_cell HX2 1
  simp only [List.getElem?_toArray, List.getElem?_cons_zero, List.getElem?_cons_succ] at y1
  clear x0 x1 HX hb HM HB HX2
  have HM := HM2
  have HB := HB2
  clear HM2 HB2 hf
  go_wp2_with fail
  refine (set_ g v rd (Alu.s32 (a + k)) _ HM.out hrd).mono ?_
  rintro e w3 ⟨rfl, hm, ho⟩
  have HM3 := Aside0.mk (show MB 76 41 w3 g (reg v rd (Alu.s32 (a + k))) from hm)
  have HO3 := Aside0.mk (((Only.refl g w).below HB.out).then_ ho)
  have c35 := (HM3.out.cell 35 (by omega)).trans (congrArg some ((reg_pc v rd _ hrd).trans HP.out))
  have h4 : IntKind.u64.wrap (U pc + 4) = U (pc + 4#64) := Alu.addU pc 4#64
  clear hm ho y1
  go_wp2
  go_ret2
  exact ⟨rfl, HM3.out, HO3.out⟩
set_option maxRecDepth 20000 in
set_option maxHeartbeats 1000000 in
theorem one_7 (g : Nat) (v : Nat → Value) (rd : Nat) (s1 s2 imm : Int) (pc a k : BitVec 64) (w : World) (h : MB 76 41 w g v) (hp : v 35 = .int .u64 (U pc)) (hrd : rd < 32) :
    Calls Tryz.prog 93 #[.pointer (some ⟨g, 0, none⟩), .agg #[.int .i64 7, .int .i64 rd, .int .i64 s1, .int .i64 s2, .int .i64 imm], .int .u64 (U a), .int .u64 (U k)] w fun e w' => e = .returned (.tuple #[.int .u64 (U (pc + 4#64)), .int .i64 0]) ∧ MB 76 41 w' g (reg v rd (a <<< k.toNat)) ∧ Only g w w' := by
  have hf := Alu.shlU a k
  have hm0 := U_nonneg k
  have HB := Aside0.mk (below_alloc (Below.refl w.heap.size w) (.cells #[.int .i64 7, .int .i64 rd, .int .i64 s1, .int .i64 s2, .int .i64 imm] 42))
  have HX := Aside0.mk (blk_new w (.cells #[.int .i64 7, .int .i64 rd, .int .i64 s1, .int .i64 s2, .int .i64 imm] 42))
  have x0 := blk_cell HX.out 0
  have x1 := blk_cell HX.out 1
  simp only [List.getElem?_toArray, List.getElem?_cons_zero, List.getElem?_cons_succ] at x0 x1
  have HM := Aside0.mk (h.below HB.out)
  have HP := Aside0.mk hp
  clear h hp
  go_enter Tryz.func93, Tryz.ntmps93
  go_wp2_with fail
  refine (set_ g v rd (a <<< k.toNat) _ HM.out hrd).mono ?_
  rintro e w3 ⟨rfl, hm, ho⟩
  have HM3 := Aside0.mk (show MB 76 41 w3 g (reg v rd (a <<< k.toNat)) from hm)
  have HO3 := Aside0.mk (((Only.refl g w).below HB.out).then_ ho)
  have c35 := (HM3.out.cell 35 (by omega)).trans (congrArg some ((reg_pc v rd _ hrd).trans HP.out))
  have h4 : IntKind.u64.wrap (U pc + 4) = U (pc + 4#64) := Alu.addU pc 4#64
  clear hm ho x0 x1
  go_wp2
  go_ret2
  exact ⟨rfl, HM3.out, HO3.out⟩
set_option maxRecDepth 20000 in
set_option maxHeartbeats 1000000 in
theorem one_8 (g : Nat) (v : Nat → Value) (rd : Nat) (s1 s2 imm : Int) (pc a k : BitVec 64) (w : World) (h : MB 76 41 w g v) (hp : v 35 = .int .u64 (U pc)) (hrd : rd < 32) :
    Calls Tryz.prog 93 #[.pointer (some ⟨g, 0, none⟩), .agg #[.int .i64 8, .int .i64 rd, .int .i64 s1, .int .i64 s2, .int .i64 imm], .int .u64 (U a), .int .u64 (U k)] w fun e w' => e = .returned (.tuple #[.int .u64 (U (pc + 4#64)), .int .i64 0]) ∧ MB 76 41 w' g (reg v rd (a >>> k.toNat)) ∧ Only g w w' := by
  have hf := Alu.shrU a k
  have hm0 := U_nonneg k
  have HB := Aside0.mk (below_alloc (Below.refl w.heap.size w) (.cells #[.int .i64 8, .int .i64 rd, .int .i64 s1, .int .i64 s2, .int .i64 imm] 42))
  have HX := Aside0.mk (blk_new w (.cells #[.int .i64 8, .int .i64 rd, .int .i64 s1, .int .i64 s2, .int .i64 imm] 42))
  have x0 := blk_cell HX.out 0
  have x1 := blk_cell HX.out 1
  simp only [List.getElem?_toArray, List.getElem?_cons_zero, List.getElem?_cons_succ] at x0 x1
  have HM := Aside0.mk (h.below HB.out)
  have HP := Aside0.mk hp
  clear h hp
  go_enter Tryz.func93, Tryz.ntmps93
  go_wp2_with fail
  refine (set_ g v rd (a >>> k.toNat) _ HM.out hrd).mono ?_
  rintro e w3 ⟨rfl, hm, ho⟩
  have HM3 := Aside0.mk (show MB 76 41 w3 g (reg v rd (a >>> k.toNat)) from hm)
  have HO3 := Aside0.mk (((Only.refl g w).below HB.out).then_ ho)
  have c35 := (HM3.out.cell 35 (by omega)).trans (congrArg some ((reg_pc v rd _ hrd).trans HP.out))
  have h4 : IntKind.u64.wrap (U pc + 4) = U (pc + 4#64) := Alu.addU pc 4#64
  clear hm ho x0 x1
  go_wp2
  go_ret2
  exact ⟨rfl, HM3.out, HO3.out⟩
set_option maxRecDepth 20000 in
set_option maxHeartbeats 1000000 in
theorem one_9 (g : Nat) (v : Nat → Value) (rd : Nat) (s1 s2 imm : Int) (pc a k : BitVec 64) (w : World) (h : MB 76 41 w g v) (hp : v 35 = .int .u64 (U pc)) (hrd : rd < 32) :
    Calls Tryz.prog 93 #[.pointer (some ⟨g, 0, none⟩), .agg #[.int .i64 9, .int .i64 rd, .int .i64 s1, .int .i64 s2, .int .i64 imm], .int .u64 (U a), .int .u64 (U k)] w fun e w' => e = .returned (.tuple #[.int .u64 (U (pc + 4#64)), .int .i64 0]) ∧ MB 76 41 w' g (reg v rd (Alu.s32 (a <<< k.toNat))) ∧ Only g w w' := by
  have hf := Alu.shlU a k
  have hm0 := U_nonneg k
  have HB := Aside0.mk (below_alloc (Below.refl w.heap.size w) (.cells #[.int .i64 9, .int .i64 rd, .int .i64 s1, .int .i64 s2, .int .i64 imm] 42))
  have HX := Aside0.mk (blk_new w (.cells #[.int .i64 9, .int .i64 rd, .int .i64 s1, .int .i64 s2, .int .i64 imm] 42))
  have x0 := blk_cell HX.out 0
  have x1 := blk_cell HX.out 1
  simp only [List.getElem?_toArray, List.getElem?_cons_zero, List.getElem?_cons_succ] at x0 x1
  have HM := Aside0.mk (h.below HB.out)
  have HP := Aside0.mk hp
  clear h hp
  go_enter Tryz.func93, Tryz.ntmps93
  go_wp2_with fail
  refine (short_at (a <<< k.toNat) _).mono ?_
  rintro e w2 ⟨rfl, hb⟩
  have HB2 := Aside0.mk (below_step HB.out hb)
  have HM2 := Aside0.mk (HM.out.below hb)
  have HX2 := blk_below HX.out hb
  have y1 := blk_cell HX2 1
  simp only [List.getElem?_toArray, List.getElem?_cons_zero, List.getElem?_cons_succ] at y1
  clear x0 x1 HX hb HM HB HX2
  have HM := HM2
  have HB := HB2
  clear HM2 HB2 hf
  go_wp2_with fail
  refine (set_ g v rd (Alu.s32 (a <<< k.toNat)) _ HM.out hrd).mono ?_
  rintro e w3 ⟨rfl, hm, ho⟩
  have HM3 := Aside0.mk (show MB 76 41 w3 g (reg v rd (Alu.s32 (a <<< k.toNat))) from hm)
  have HO3 := Aside0.mk (((Only.refl g w).below HB.out).then_ ho)
  have c35 := (HM3.out.cell 35 (by omega)).trans (congrArg some ((reg_pc v rd _ hrd).trans HP.out))
  have h4 : IntKind.u64.wrap (U pc + 4) = U (pc + 4#64) := Alu.addU pc 4#64
  clear hm ho y1
  go_wp2
  go_ret2
  exact ⟨rfl, HM3.out, HO3.out⟩
set_option maxRecDepth 20000 in
set_option maxHeartbeats 1000000 in
theorem one_10 (g : Nat) (v : Nat → Value) (rd : Nat) (s1 s2 imm : Int) (pc a k : BitVec 64) (w : World) (h : MB 76 41 w g v) (hp : v 35 = .int .u64 (U pc)) (hrd : rd < 32) :
    Calls Tryz.prog 93 #[.pointer (some ⟨g, 0, none⟩), .agg #[.int .i64 10, .int .i64 rd, .int .i64 s1, .int .i64 s2, .int .i64 imm], .int .u64 (U a), .int .u64 (U k)] w fun e w' => e = .returned (.tuple #[.int .u64 (U (pc + 4#64)), .int .i64 0]) ∧ MB 76 41 w' g (reg v rd (Alu.s32 (Alu.low a >>> k.toNat))) ∧ Only g w w' := by
  have hf := Alu.shrU (Alu.low a) k
  have hm0 := U_nonneg k
  have hm1 := andlow a
  have HB := Aside0.mk (below_alloc (Below.refl w.heap.size w) (.cells #[.int .i64 10, .int .i64 rd, .int .i64 s1, .int .i64 s2, .int .i64 imm] 42))
  have HX := Aside0.mk (blk_new w (.cells #[.int .i64 10, .int .i64 rd, .int .i64 s1, .int .i64 s2, .int .i64 imm] 42))
  have x0 := blk_cell HX.out 0
  have x1 := blk_cell HX.out 1
  simp only [List.getElem?_toArray, List.getElem?_cons_zero, List.getElem?_cons_succ] at x0 x1
  have HM := Aside0.mk (h.below HB.out)
  have HP := Aside0.mk hp
  clear h hp
  go_enter Tryz.func93, Tryz.ntmps93
  go_wp2_with fail
  refine (short_at (Alu.low a >>> k.toNat) _).mono ?_
  rintro e w2 ⟨rfl, hb⟩
  have HB2 := Aside0.mk (below_step HB.out hb)
  have HM2 := Aside0.mk (HM.out.below hb)
  have HX2 := blk_below HX.out hb
  have y1 := blk_cell HX2 1
  simp only [List.getElem?_toArray, List.getElem?_cons_zero, List.getElem?_cons_succ] at y1
  clear x0 x1 HX hb HM HB HX2
  have HM := HM2
  have HB := HB2
  clear HM2 HB2 hf
  go_wp2_with fail
  refine (set_ g v rd (Alu.s32 (Alu.low a >>> k.toNat)) _ HM.out hrd).mono ?_
  rintro e w3 ⟨rfl, hm, ho⟩
  have HM3 := Aside0.mk (show MB 76 41 w3 g (reg v rd (Alu.s32 (Alu.low a >>> k.toNat))) from hm)
  have HO3 := Aside0.mk (((Only.refl g w).below HB.out).then_ ho)
  have c35 := (HM3.out.cell 35 (by omega)).trans (congrArg some ((reg_pc v rd _ hrd).trans HP.out))
  have h4 : IntKind.u64.wrap (U pc + 4) = U (pc + 4#64) := Alu.addU pc 4#64
  clear hm ho y1
  go_wp2
  go_ret2
  exact ⟨rfl, HM3.out, HO3.out⟩
end Go.Proofs.YtcgkgaibomcheaaGreat.ROne
end

section
namespace Go.Proofs.YtcgkgaibomcheaaGreat.ROne2
open Go.RowKit Bits Mb Ends RTwo ROne PRvemuRuns YtcgkgaibomcheaaGreatW.PrintWords YtcgkgaibomcheaaGreatW.PrintLast YtcgkgaibomcheaaGreatW.PrintMore
set_option maxRecDepth 20000 in
set_option maxHeartbeats 1000000 in
theorem one_12 (g : Nat) (rd : Nat) (s1 s2 imm : Int) (pc a k x : BitVec 64) (w : World) (hrd : rd < 32) (X : (Nat → Value) → World → Prop)
    (hl : Calls Tryz.prog 108 #[.pointer (some ⟨g, 0, none⟩), .int .u64 (U (a + k)), .int .i64 4] (w.alloc (.cells #[.int .i64 12, .int .i64 rd, .int .i64 s1, .int .i64 s2, .int .i64 imm] 42)) fun e w' => e = .returned (.tuple #[.int .u64 (U x), .bool true]) ∧ ∃ v', MB 76 41 w' g v' ∧ v' 35 = .int .u64 (U pc) ∧ w'.heap[w.heap.size]? = some (.cells #[.int .i64 12, .int .i64 rd, .int .i64 s1, .int .i64 s2, .int .i64 imm] 42 (0, 0)) ∧ X v' w') :
    Calls Tryz.prog 93 #[.pointer (some ⟨g, 0, none⟩), .agg #[.int .i64 12, .int .i64 rd, .int .i64 s1, .int .i64 s2, .int .i64 imm], .int .u64 (U a), .int .u64 (U k)] w fun e w' => e = .returned (.tuple #[.int .u64 (U (pc + 4#64)), .int .i64 0]) ∧ ∃ v' w1, X v' w1 ∧ MB 76 41 w' g (reg v' rd (Alu.s32 x)) ∧ Only g w1 w' := by
  have hf := Alu.addU a k
  have x0 := blk_cell (blk_new w (.cells #[.int .i64 12, .int .i64 rd, .int .i64 s1, .int .i64 s2, .int .i64 imm] 42)) 0
  simp only [List.getElem?_toArray, List.getElem?_cons_zero, List.getElem?_cons_succ] at x0
  have HL := Aside0.mk hl
  clear hl
  go_enter Tryz.func93, Tryz.ntmps93
  go_wp2_with fail
  refine HL.out.mono ?_
  rintro e w1 ⟨rfl, v', hm, hp, hx, hX⟩
  have HM := Aside0.mk hm
  have HP := Aside0.mk hp
  have HXX := Aside0.mk hX
  have HX := Aside0.mk hx
  clear HL x0 hm hp hX hx hf
  have y1 := blk_cell HX.out 1
  simp only [List.getElem?_toArray, List.getElem?_cons_zero, List.getElem?_cons_succ] at y1
  go_wp2_with fail
  refine (short_at x _).mono ?_
  rintro e w2 ⟨rfl, hb⟩
  have HB2 := Aside0.mk hb
  have HM2 := Aside0.mk (HM.out.below hb)
  have y1 := blk_cell (blk_below HX.out hb) 1
  simp only [List.getElem?_toArray, List.getElem?_cons_zero, List.getElem?_cons_succ] at y1
  clear hb
  go_wp2_with fail
  refine (set_ g v' rd (Alu.s32 x) _ HM2.out hrd).mono ?_
  rintro e w3 ⟨rfl, hm, ho⟩
  have HO3 := Aside0.mk (((Only.refl g w1).below HB2.out).then_ ho)
  have HM3 := Aside0.mk (show MB 76 41 w3 g (reg v' rd (Alu.s32 x)) from hm)
  have c35 := (HM3.out.cell 35 (by omega)).trans (congrArg some ((reg_pc v' rd _ hrd).trans HP.out))
  have h4 : IntKind.u64.wrap (U pc + 4) = U (pc + 4#64) := Alu.addU pc 4#64
  clear hm ho y1
  go_wp2
  go_ret2
  exact ⟨rfl, v', w1, HXX.out, HM3.out, HO3.out⟩
set_option maxRecDepth 20000 in
set_option maxHeartbeats 1000000 in
theorem one_12_no (g : Nat) (rd : Nat) (s1 s2 imm : Int) (a k : BitVec 64) (w : World)
    (hl : Calls Tryz.prog 108 #[.pointer (some ⟨g, 0, none⟩), .int .u64 (U (a + k)), .int .i64 4] (w.alloc (.cells #[.int .i64 12, .int .i64 rd, .int .i64 s1, .int .i64 s2, .int .i64 imm] 42)) fun e w' => e = .returned (.tuple #[.int .u64 0, .bool false]) ∧ Below (w.alloc (.cells #[.int .i64 12, .int .i64 rd, .int .i64 s1, .int .i64 s2, .int .i64 imm] 42)).heap.size (w.alloc (.cells #[.int .i64 12, .int .i64 rd, .int .i64 s1, .int .i64 s2, .int .i64 imm] 42)) w') :
    Calls Tryz.prog 93 #[.pointer (some ⟨g, 0, none⟩), .agg #[.int .i64 12, .int .i64 rd, .int .i64 s1, .int .i64 s2, .int .i64 imm], .int .u64 (U a), .int .u64 (U k)] w fun e w' => e = .returned (.tuple #[.int .u64 0, .int .i64 6]) ∧ Below w.heap.size w w' := by
  have hf := Alu.addU a k
  have x0 := blk_cell (blk_new w (.cells #[.int .i64 12, .int .i64 rd, .int .i64 s1, .int .i64 s2, .int .i64 imm] 42)) 0
  simp only [List.getElem?_toArray, List.getElem?_cons_zero, List.getElem?_cons_succ] at x0
  have HB := Aside0.mk (below_alloc (Below.refl w.heap.size w) (.cells #[.int .i64 12, .int .i64 rd, .int .i64 s1, .int .i64 s2, .int .i64 imm] 42))
  have HL := Aside0.mk hl
  clear hl
  go_enter Tryz.func93, Tryz.ntmps93
  go_wp2_with fail
  refine HL.out.mono ?_
  rintro e w1 ⟨rfl, hb⟩
  have HB1 := Aside0.mk (below_step HB.out hb)
  clear HL x0 hf hb
  have hz : U 0#64 = 0 := by decide
  go_wp2_with fail
  refine (by have h := short_at 0#64 w1; rw [hz] at h; exact h : Calls Tryz.prog 106 #[.int .u64 0] w1 fun e w' => e = .returned (.int .u64 (U (Alu.s32 0#64))) ∧ Below w1.heap.size w1 w').mono ?_
  rintro e w2 ⟨rfl, hb⟩
  have HB2 := Aside0.mk (below_step HB1.out hb)
  clear hb
  go_wp2
  go_ret2
  exact ⟨rfl, HB2.out⟩
set_option maxRecDepth 20000 in
set_option maxHeartbeats 1000000 in
theorem one_13 (g : Nat) (rd : Nat) (s1 s2 imm : Int) (pc a k x : BitVec 64) (w : World) (hrd : rd < 32) (X : (Nat → Value) → World → Prop)
    (hl : Calls Tryz.prog 108 #[.pointer (some ⟨g, 0, none⟩), .int .u64 (U (a + k)), .int .i64 4] (w.alloc (.cells #[.int .i64 13, .int .i64 rd, .int .i64 s1, .int .i64 s2, .int .i64 imm] 42)) fun e w' => e = .returned (.tuple #[.int .u64 (U x), .bool true]) ∧ ∃ v', MB 76 41 w' g v' ∧ v' 35 = .int .u64 (U pc) ∧ w'.heap[w.heap.size]? = some (.cells #[.int .i64 13, .int .i64 rd, .int .i64 s1, .int .i64 s2, .int .i64 imm] 42 (0, 0)) ∧ X v' w') :
    Calls Tryz.prog 93 #[.pointer (some ⟨g, 0, none⟩), .agg #[.int .i64 13, .int .i64 rd, .int .i64 s1, .int .i64 s2, .int .i64 imm], .int .u64 (U a), .int .u64 (U k)] w fun e w' => e = .returned (.tuple #[.int .u64 (U (pc + 4#64)), .int .i64 0]) ∧ ∃ v' w1, X v' w1 ∧ MB 76 41 w' g (reg v' rd (x)) ∧ Only g w1 w' := by
  have hf := Alu.addU a k
  have x0 := blk_cell (blk_new w (.cells #[.int .i64 13, .int .i64 rd, .int .i64 s1, .int .i64 s2, .int .i64 imm] 42)) 0
  simp only [List.getElem?_toArray, List.getElem?_cons_zero, List.getElem?_cons_succ] at x0
  have HL := Aside0.mk hl
  clear hl
  go_enter Tryz.func93, Tryz.ntmps93
  go_wp2_with fail
  refine HL.out.mono ?_
  rintro e w1 ⟨rfl, v', hm, hp, hx, hX⟩
  have HM := Aside0.mk hm
  have HP := Aside0.mk hp
  have HXX := Aside0.mk hX
  have HX := Aside0.mk hx
  clear HL x0 hm hp hX hx hf
  have y1 := blk_cell HX.out 1
  simp only [List.getElem?_toArray, List.getElem?_cons_zero, List.getElem?_cons_succ] at y1
  go_wp2_with fail
  refine (set_ g v' rd (x) _ HM.out hrd).mono ?_
  rintro e w3 ⟨rfl, hm, ho⟩
  have HO3 := Aside0.mk ho
  have HM3 := Aside0.mk (show MB 76 41 w3 g (reg v' rd (x)) from hm)
  have c35 := (HM3.out.cell 35 (by omega)).trans (congrArg some ((reg_pc v' rd _ hrd).trans HP.out))
  have h4 : IntKind.u64.wrap (U pc + 4) = U (pc + 4#64) := Alu.addU pc 4#64
  clear hm ho y1
  go_wp2
  go_ret2
  exact ⟨rfl, v', w1, HXX.out, HM3.out, HO3.out⟩
set_option maxRecDepth 20000 in
set_option maxHeartbeats 1000000 in
theorem one_13_no (g : Nat) (rd : Nat) (s1 s2 imm : Int) (a k : BitVec 64) (w : World)
    (hl : Calls Tryz.prog 108 #[.pointer (some ⟨g, 0, none⟩), .int .u64 (U (a + k)), .int .i64 4] (w.alloc (.cells #[.int .i64 13, .int .i64 rd, .int .i64 s1, .int .i64 s2, .int .i64 imm] 42)) fun e w' => e = .returned (.tuple #[.int .u64 0, .bool false]) ∧ Below (w.alloc (.cells #[.int .i64 13, .int .i64 rd, .int .i64 s1, .int .i64 s2, .int .i64 imm] 42)).heap.size (w.alloc (.cells #[.int .i64 13, .int .i64 rd, .int .i64 s1, .int .i64 s2, .int .i64 imm] 42)) w') :
    Calls Tryz.prog 93 #[.pointer (some ⟨g, 0, none⟩), .agg #[.int .i64 13, .int .i64 rd, .int .i64 s1, .int .i64 s2, .int .i64 imm], .int .u64 (U a), .int .u64 (U k)] w fun e w' => e = .returned (.tuple #[.int .u64 0, .int .i64 6]) ∧ Below w.heap.size w w' := by
  have hf := Alu.addU a k
  have x0 := blk_cell (blk_new w (.cells #[.int .i64 13, .int .i64 rd, .int .i64 s1, .int .i64 s2, .int .i64 imm] 42)) 0
  simp only [List.getElem?_toArray, List.getElem?_cons_zero, List.getElem?_cons_succ] at x0
  have HB := Aside0.mk (below_alloc (Below.refl w.heap.size w) (.cells #[.int .i64 13, .int .i64 rd, .int .i64 s1, .int .i64 s2, .int .i64 imm] 42))
  have HL := Aside0.mk hl
  clear hl
  go_enter Tryz.func93, Tryz.ntmps93
  go_wp2_with fail
  refine HL.out.mono ?_
  rintro e w1 ⟨rfl, hb⟩
  have HB1 := Aside0.mk (below_step HB.out hb)
  clear HL x0 hf hb
  go_wp2
  go_ret2
  exact ⟨rfl, HB1.out⟩
set_option maxRecDepth 20000 in
set_option maxHeartbeats 1000000 in
theorem one_11 (g : Nat) (rd : Nat) (s1 s2 imm : Int) (pc a k x : BitVec 64) (w : World) (hrd : rd < 32) (X : (Nat → Value) → World → Prop)
    (hl : Calls Tryz.prog 108 #[.pointer (some ⟨g, 0, none⟩), .int .u64 (U (a + k)), .int .i64 8] (w.alloc (.cells #[.int .i64 11, .int .i64 rd, .int .i64 s1, .int .i64 s2, .int .i64 imm] 42)) fun e w' => e = .returned (.tuple #[.int .u64 (U x), .bool true]) ∧ ∃ v', MB 76 41 w' g v' ∧ v' 35 = .int .u64 (U pc) ∧ w'.heap[w.heap.size]? = some (.cells #[.int .i64 11, .int .i64 rd, .int .i64 s1, .int .i64 s2, .int .i64 imm] 42 (0, 0)) ∧ X v' w') :
    Calls Tryz.prog 93 #[.pointer (some ⟨g, 0, none⟩), .agg #[.int .i64 11, .int .i64 rd, .int .i64 s1, .int .i64 s2, .int .i64 imm], .int .u64 (U a), .int .u64 (U k)] w fun e w' => e = .returned (.tuple #[.int .u64 (U (pc + 4#64)), .int .i64 0]) ∧ ∃ v' w1, X v' w1 ∧ MB 76 41 w' g (reg v' rd (x)) ∧ Only g w1 w' := by
  have hf := Alu.addU a k
  have x0 := blk_cell (blk_new w (.cells #[.int .i64 11, .int .i64 rd, .int .i64 s1, .int .i64 s2, .int .i64 imm] 42)) 0
  simp only [List.getElem?_toArray, List.getElem?_cons_zero, List.getElem?_cons_succ] at x0
  have HL := Aside0.mk hl
  clear hl
  go_enter Tryz.func93, Tryz.ntmps93
  go_wp2_with fail
  refine HL.out.mono ?_
  rintro e w1 ⟨rfl, v', hm, hp, hx, hX⟩
  have HM := Aside0.mk hm
  have HP := Aside0.mk hp
  have HXX := Aside0.mk hX
  have HX := Aside0.mk hx
  clear HL x0 hm hp hX hx hf
  have y1 := blk_cell HX.out 1
  simp only [List.getElem?_toArray, List.getElem?_cons_zero, List.getElem?_cons_succ] at y1
  go_wp2_with fail
  refine (set_ g v' rd (x) _ HM.out hrd).mono ?_
  rintro e w3 ⟨rfl, hm, ho⟩
  have HO3 := Aside0.mk ho
  have HM3 := Aside0.mk (show MB 76 41 w3 g (reg v' rd (x)) from hm)
  have c35 := (HM3.out.cell 35 (by omega)).trans (congrArg some ((reg_pc v' rd _ hrd).trans HP.out))
  have h4 : IntKind.u64.wrap (U pc + 4) = U (pc + 4#64) := Alu.addU pc 4#64
  clear hm ho y1
  go_wp2
  go_ret2
  exact ⟨rfl, v', w1, HXX.out, HM3.out, HO3.out⟩
set_option maxRecDepth 20000 in
set_option maxHeartbeats 1000000 in
theorem one_11_no (g : Nat) (rd : Nat) (s1 s2 imm : Int) (a k : BitVec 64) (w : World)
    (hl : Calls Tryz.prog 108 #[.pointer (some ⟨g, 0, none⟩), .int .u64 (U (a + k)), .int .i64 8] (w.alloc (.cells #[.int .i64 11, .int .i64 rd, .int .i64 s1, .int .i64 s2, .int .i64 imm] 42)) fun e w' => e = .returned (.tuple #[.int .u64 0, .bool false]) ∧ Below (w.alloc (.cells #[.int .i64 11, .int .i64 rd, .int .i64 s1, .int .i64 s2, .int .i64 imm] 42)).heap.size (w.alloc (.cells #[.int .i64 11, .int .i64 rd, .int .i64 s1, .int .i64 s2, .int .i64 imm] 42)) w') :
    Calls Tryz.prog 93 #[.pointer (some ⟨g, 0, none⟩), .agg #[.int .i64 11, .int .i64 rd, .int .i64 s1, .int .i64 s2, .int .i64 imm], .int .u64 (U a), .int .u64 (U k)] w fun e w' => e = .returned (.tuple #[.int .u64 0, .int .i64 6]) ∧ Below w.heap.size w w' := by
  have hf := Alu.addU a k
  have x0 := blk_cell (blk_new w (.cells #[.int .i64 11, .int .i64 rd, .int .i64 s1, .int .i64 s2, .int .i64 imm] 42)) 0
  simp only [List.getElem?_toArray, List.getElem?_cons_zero, List.getElem?_cons_succ] at x0
  have HB := Aside0.mk (below_alloc (Below.refl w.heap.size w) (.cells #[.int .i64 11, .int .i64 rd, .int .i64 s1, .int .i64 s2, .int .i64 imm] 42))
  have HL := Aside0.mk hl
  clear hl
  go_enter Tryz.func93, Tryz.ntmps93
  go_wp2_with fail
  refine HL.out.mono ?_
  rintro e w1 ⟨rfl, hb⟩
  have HB1 := Aside0.mk (below_step HB.out hb)
  clear HL x0 hf hb
  go_wp2
  go_ret2
  exact ⟨rfl, HB1.out⟩
set_option maxRecDepth 20000 in
set_option maxHeartbeats 1000000 in
theorem one_34 (g : Nat) (v : Nat → Value) (rd : Nat) (s1 s2 imm : Int) (pc a k : BitVec 64) (w : World) (h : MB 76 41 w g v) (hp : v 35 = .int .u64 (U pc)) (hrd : rd < 32) :
    Calls Tryz.prog 93 #[.pointer (some ⟨g, 0, none⟩), .agg #[.int .i64 34, .int .i64 rd, .int .i64 s1, .int .i64 s2, .int .i64 imm], .int .u64 (U a), .int .u64 (U k)] w fun e w' => e = .returned (.tuple #[.int .u64 (U ((a + k) &&& ~~~1#64)), .int .i64 0]) ∧ MB 76 41 w' g (reg v rd (pc + 4#64)) ∧ Only g w w' := by
  have hf := Alu.addU a k
  have hn : Go.bits .andNot .u64 (U (a + k)) 1 = U ((a + k) &&& ~~~1#64) := andNot_U (a + k) 1#64
  have h4 : IntKind.u64.wrap (U pc + 4) = U (pc + 4#64) := Alu.addU pc 4#64
  have HB := Aside0.mk (below_alloc (Below.refl w.heap.size w) (.cells #[.int .i64 34, .int .i64 rd, .int .i64 s1, .int .i64 s2, .int .i64 imm] 42))
  have x0 := blk_cell (blk_new w (.cells #[.int .i64 34, .int .i64 rd, .int .i64 s1, .int .i64 s2, .int .i64 imm] 42)) 0
  have x1 := blk_cell (blk_new w (.cells #[.int .i64 34, .int .i64 rd, .int .i64 s1, .int .i64 s2, .int .i64 imm] 42)) 1
  simp only [List.getElem?_toArray, List.getElem?_cons_zero, List.getElem?_cons_succ] at x0 x1
  have HM := Aside0.mk (h.below HB.out)
  have c35 := (HM.out.cell 35 (by omega)).trans (congrArg some hp)
  clear h hp
  go_enter Tryz.func93, Tryz.ntmps93
  go_wp2_with fail
  obtain ⟨W, hW⟩ : ∃ W, W = w.alloc (.cells #[.int .i64 34, .int .i64 rd, .int .i64 s1, .int .i64 s2, .int .i64 imm] 42) := ⟨_, rfl⟩
  rw [← hW] at HB HM x0 x1 c35 ⊢
  clear hW
  go_still_tail 8, (by kernel_rfl)
  change wpList _ _ _ _ _ W.drew
  clear x0 x1 c35
  go_wp2_with fail
  refine (set_ g v rd (pc + 4#64) W.drew (HM.out.of rfl) hrd).mono ?_
  rintro e w3 ⟨rfl, hm, ho⟩
  have HM3 := Aside0.mk (show MB 76 41 w3 g (reg v rd (pc + 4#64)) from hm)
  have HO3 := Aside0.mk (((Only.refl g w).below (below_drew HB.out)).then_ ho)
  clear hm ho
  go_wp2
  go_ret2
  exact ⟨rfl, HM3.out, HO3.out⟩
end Go.Proofs.YtcgkgaibomcheaaGreat.ROne2
end

section
namespace Go.Proofs.YtcgkgaibomcheaaGreat.Find
open Go.RowKit PRvemuRuns YtcgkgaibomcheaaGreatW.PrintWords YtcgkgaibomcheaaGreatW.PrintLast YtcgkgaibomcheaaGreatW.PrintMore
def rowOf (op : Nat) : S59 := (rowsL.find? fun r => r.f0 == (op : Int)).getD z59
set_option maxRecDepth 20000 in
theorem find_eq : ∀ op : Fin 34, ravelinref15_Find.f 40 ((op.1 + 1 : Nat) : Int) = some ((rowOf (op.1 + 1)).f0, (rowOf (op.1 + 1)).f1, (rowOf (op.1 + 1)).f2, (rowOf (op.1 + 1)).f3, (rowOf (op.1 + 1)).f4, (rowOf (op.1 + 1)).f5, true) := by
  intro i
  rcases i with ⟨i, hi⟩
  rcases i with _ | _ | _ | _ | _ | _ | _ | _ | _ | _ | _ | _ | _ | _ | _ | _ | _ | _ | _ | _ | _ | _ | _ | _ | _ | _ | _ | _ | _ | _ | _ | _ | _ | _ | i
  · kernel_rfl
  · kernel_rfl
  · kernel_rfl
  · kernel_rfl
  · kernel_rfl
  · kernel_rfl
  · kernel_rfl
  · kernel_rfl
  · kernel_rfl
  · kernel_rfl
  · kernel_rfl
  · kernel_rfl
  · kernel_rfl
  · kernel_rfl
  · kernel_rfl
  · kernel_rfl
  · kernel_rfl
  · kernel_rfl
  · kernel_rfl
  · kernel_rfl
  · kernel_rfl
  · kernel_rfl
  · kernel_rfl
  · kernel_rfl
  · kernel_rfl
  · kernel_rfl
  · kernel_rfl
  · kernel_rfl
  · kernel_rfl
  · kernel_rfl
  · kernel_rfl
  · kernel_rfl
  · kernel_rfl
  · kernel_rfl
  · exact absurd hi (by omega)
end Go.Proofs.YtcgkgaibomcheaaGreat.Find
end

section
namespace Go.Proofs.YtcgkgaibomcheaaGreat.RDoes
open Go.RowKit Bits Mb Ends RTwo ROne PRvemuRuns YtcgkgaibomcheaaGreatW.PrintWords YtcgkgaibomcheaaGreatW.PrintLast YtcgkgaibomcheaaGreatW.PrintMore
def RPost (t : Option (BitVec 64)) (g : Nat) (v : Nat → Value) (rd : Nat) (pc : BitVec 64) (w : World) (e : Ending) (w' : World) : Prop :=
  match t with
  | some r => e = .returned (.tuple #[.int .u64 (U (pc + 4#64)), .int .i64 0]) ∧ MB 76 41 w' g (reg v rd r) ∧ Only g w w'
  | none => e = .returned (.tuple #[.int .u64 0, .int .i64 8]) ∧ MB 76 41 w' g v ∧ Only g w w'
set_option maxRecDepth 20000 in
set_option maxHeartbeats 2000000 in
theorem does_R (g : Nat) (v : Nat → Value) (op rd r1 r2 : Nat) (imm : Int) (pc a b : BitVec 64) (w : World) (h : MB 76 41 w g v) (hp : v 35 = .int .u64 (U pc)) (hrd : rd < 32) (hr1 : r1 < 32) (hr2 : r2 < 32) (ha : v (3 + r1) = .int .u64 (U a)) (hb : v (3 + r2) = .int .u64 (U b)) (ho1 : 16 ≤ op) (ho2 : op ≤ 28) (row : S59) (hrow : ravelinref15_Find.f 40 (op : Int) = some (row.f0, row.f1, row.f2, row.f3, row.f4, row.f5, true)) (hform : row.f1 = 6) :
    Calls Tryz.prog 45 #[.pointer (some ⟨g, 0, none⟩), .agg #[.int .i64 op, .int .i64 rd, .int .i64 r1, .int .i64 r2, .int .i64 imm]] w fun e w' => RPost (two op a b) g v rd pc w e w' := by
  obtain ⟨f0, f1, f2, f3, f4, f5⟩ := row
  replace hform : f1 = 6 := hform
  subst hform
  replace hrow : ravelinref15_Find.f 40 (op : Int) = some (f0, 6, f2, f3, f4, f5, true) := hrow
  have HB := Aside0.mk (below_alloc (Below.refl w.heap.size w) (.cells #[.int .i64 op, .int .i64 rd, .int .i64 r1, .int .i64 r2, .int .i64 imm] 42))
  have HX := Aside0.mk (blk_new w (.cells #[.int .i64 op, .int .i64 rd, .int .i64 r1, .int .i64 r2, .int .i64 imm] 42))
  have HM := Aside0.mk (h.below HB.out)
  have HP := Aside0.mk hp
  have HF := Aside0.mk hrow
  have HT := Aside0.mk (two_eq 100 (by omega) op ho1 ho2 a b)
  clear h hp hrow
  go_enter Tryz.func45, Tryz.ntmps45
  go_wp2_with fail
  obtain ⟨W, hW⟩ : ∃ W, W = w.alloc (.cells #[.int .i64 op, .int .i64 rd, .int .i64 r1, .int .i64 r2, .int .i64 imm] 42) := ⟨_, rfl⟩
  rw [← hW] at HB HX HM ⊢
  clear hW
  have x2 := blk_cell HX.out 2
  have y1 := (HM.out.cell (3 + r1) (by omega)).trans (congrArg some ha)
  simp only [List.getElem?_toArray, List.getElem?_cons_zero, List.getElem?_cons_succ] at x2
  have q0 : (0 : Int) ≤ (r1 : Int) := by omega
  have q1 : (r1 : Int) < 32 := by omega
  have q2 : (0 : Int) ≤ (r2 : Int) := by omega
  have q3 : (r2 : Int) < 32 := by omega
  go_quiet (fail)
  have HB2 := Aside0.mk (pw_below_drewN HB.out nq)
  have HX2 := Aside0.mk (blk_drewN HX.out nq)
  have HM2 := Aside0.mk (show MB 76 41 (W.drewN nq) g v from HM.out.of rfl)
  generalize W.drewN nq = W2 at HB2 HX2 HM2 ⊢
  clear HB HX HM x2 y1
  have x3 := blk_cell HX2.out 3
  have y2 := (HM2.out.cell (3 + r2) (by omega)).trans (congrArg some hb)
  simp only [List.getElem?_toArray, List.getElem?_cons_zero, List.getElem?_cons_succ] at x3
  go_wp2_with fail
  go_quiet (fail)
  have HB3 := Aside0.mk (pw_below_drewN HB2.out nq)
  have HX3 := Aside0.mk (blk_drewN HX2.out nq)
  have HM3 := Aside0.mk (show MB 76 41 (W2.drewN nq) g v from HM2.out.of rfl)
  generalize W2.drewN nq = W3 at HB3 HX3 HM3 ⊢
  clear HB2 HX2 HM2 x3 y2
  have x0 := blk_cell HX3.out 0
  have x4 := blk_cell HX3.out 4
  simp only [List.getElem?_toArray, List.getElem?_cons_zero, List.getElem?_cons_succ] at x0 x4
  have hk := wrapU imm
  go_wp2_with fail
  refine (ravelinref15_Find.calls 40 op f0 6 f2 f3 f4 f5 true _ HF.out).mono ?_
  rintro e w4 ⟨rfl, hb4⟩
  have HB4 := Aside0.mk (below_alloc (below_step HB3.out hb4) (.cells #[.int .i64 f0, .int .i64 6, .int .u32 f2, .int .u32 f3, .int .u32 f4, .string f5] 59))
  have HX4 := Aside0.mk (blk_alloc (blk_below HX3.out hb4) (.cells #[.int .i64 f0, .int .i64 6, .int .u32 f2, .int .u32 f3, .int .u32 f4, .string f5] 59))
  have HM4 := Aside0.mk ((HM3.out.below hb4).below (below_alloc (Below.refl w4.heap.size w4) (.cells #[.int .i64 f0, .int .i64 6, .int .u32 f2, .int .u32 f3, .int .u32 f4, .string f5] 59)))
  have z1 := blk_cell (blk_new w4 (.cells #[.int .i64 f0, .int .i64 6, .int .u32 f2, .int .u32 f3, .int .u32 f4, .string f5] 59)) 1
  have x0 := blk_cell HX4.out 0
  have x1 := blk_cell HX4.out 1
  simp only [List.getElem?_toArray, List.getElem?_cons_zero, List.getElem?_cons_succ] at x0 x1 z1
  clear hb4 HB3 HX3 HM3 HF x4 hk
  go_wp2_with fail
  clear x0 z1
  cases h2 : two op a b with
  | some r =>
    have HT2 := Aside0.mk HT.out
    rw [h2] at HT2
    have H2 := Aside0.mk h2
    clear HT h2
    refine (ravelinref16_two.calls 100 op (U a) (U b) (U r) 0 _ HT2.out).mono ?_
    rintro e w6 ⟨rfl, hd⟩
    have HB6 := Aside0.mk (below_step HB4.out hd.below)
    have HM6 := Aside0.mk (HM4.out.below hd.below)
    have y1 := blk_cell (blk_below HX4.out hd.below) 1
    simp only [List.getElem?_toArray, List.getElem?_cons_zero, List.getElem?_cons_succ] at y1
    clear hd HB4 HM4 HX4 x1 HT2
    go_wp2_with fail
    refine (set_ g v rd r _ HM6.out hrd).mono ?_
    rintro e w7 ⟨rfl, hm, ho⟩
    have HM7 := Aside0.mk (show MB 76 41 w7 g (reg v rd r) from hm)
    have HO7 := Aside0.mk (((Only.refl g w).below HB6.out).then_ ho)
    have c35 := (HM7.out.cell 35 (by omega)).trans (congrArg some ((reg_pc v rd _ hrd).trans HP.out))
    have h4 : IntKind.u64.wrap (U pc + 4) = U (pc + 4#64) := Alu.addU pc 4#64
    clear hm ho y1
    go_wp2
    go_ret2
    rw [H2.out]
    exact ⟨rfl, HM7.out, HO7.out⟩
  | none =>
    have HT2 := Aside0.mk HT.out
    rw [h2] at HT2
    have H2 := Aside0.mk h2
    clear HT h2
    refine (ravelinref16_two.calls 100 op (U a) (U b) 0 8 _ HT2.out).mono ?_
    rintro e w6 ⟨rfl, hd⟩
    have HM6 := Aside0.mk (HM4.out.below hd.below)
    have HO6 := Aside0.mk ((Only.refl g w).below (below_step HB4.out hd.below))
    clear hd HB4 HM4 HX4 x1 HT2
    go_wp2
    go_ret2
    rw [H2.out]
    exact ⟨rfl, HM6.out, HO6.out⟩
end Go.Proofs.YtcgkgaibomcheaaGreat.RDoes
end
