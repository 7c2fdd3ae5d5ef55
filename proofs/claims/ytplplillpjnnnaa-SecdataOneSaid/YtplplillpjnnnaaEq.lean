/- Data are equal just if their nine words are; strings of bytes are equal just if the bytes are. Conditions: those of each theorem. -/
import Derived.Test.YtplplillpjnnnaaCommon
import Derived.DeepKeys
namespace Go.Proofs.Ytplplillpjnnnaa.Common
open Go.RowKit Go.Proofs.Ytplplillpjnnnaa.Bits Go.Proofs.Ytplplillpjnnnaa.Dat Go.Proofs.YtplplillpjnnnaaW.PrintWords Go.Proofs.YtplplillpjnnnaaW.PrintLast Go.Proofs.YtplplillpjnnnaaW.PrintMore
set_option linter.unusedVariables false
set_option linter.unusedSimpArgs false

/-- Are the nine words the same? -/
def eqB (a b : Dt) : Bool := decide (a.nr = b.nr ∧ a.arch = b.arch ∧ a.ip = b.ip ∧ a.a0 = b.a0 ∧ a.a1 = b.a1 ∧ a.a2 = b.a2 ∧ a.a3 = b.a3 ∧ a.a4 = b.a4 ∧ a.a5 = b.a5)
theorem eqB_iff (a b : Dt) : eqB a b = true ↔ a = b := by
  cases a; cases b
  simp [eqB]
def Dt.lits (d : Dt) : List Lit := [.int .u32 (U d.nr), .int .u32 (U d.arch), .int .u64 (U d.ip), .int .u64 (U d.a0), .int .u64 (U d.a1), .int .u64 (U d.a2), .int .u64 (U d.a3), .int .u64 (U d.a4), .int .u64 (U d.a5)]
theorem lits_inj (a b : Dt) : Dt.lits a = Dt.lits b ↔ a = b := by
  refine ⟨fun h => ?_, fun h => by rw [h]⟩
  unfold Dt.lits at h
  simp only [List.cons.injEq, Lit.int.injEq, true_and, and_true] at h
  obtain ⟨h0, h1, h2, h3, h4, h5, h6, h7, h8⟩ := h
  cases a; cases b
  simp only [Dt.mk.injEq]
  exact ⟨U_inj h0, U_inj h1, U_inj h2, U_inj h3, U_inj h4, U_inj h5, U_inj h6, U_inj h7, U_inj h8⟩
theorem keyTy : Try.prog.keyTypeAt 9000 26 = true := by kernel_rfl
/-- The number and the architecture have 32 bits. -/
def Dt.small (d : Dt) : Prop := (Lit.int .u32 (U d.nr)).wf = true ∧ (Lit.int .u32 (U d.arch)).wf = true
theorem wf_U (x : BitVec 64) : (Lit.int .u64 (U x)).wf = true := by
  have h0 := U_nonneg x
  have h1 := U_lt x
  simp only [Lit.wf, IntKind.min, IntKind.max, IntKind.bits, IntKind.signed, Bool.false_eq_true, if_false, Bool.and_eq_true, decide_eq_true_eq]
  omega
theorem keyInt {t : TypeId} {k : IntKind} (ht : Try.prog.underlying t = some (.int k)) (D : Nat) (n : Int) (h : (Lit.int k n).wf = true) : Try.prog.keyLits (D + 1) t [.int k n] = some [.int k n] := by
  unfold Program.keyLits
  rw [ht]
  simp [h]
theorem lits_of (d : Dt) (h : Dt.small d) : Try.prog.keyLits 5 26 (Value.agg d.vals.toArray).cells.toList = some (Dt.lits d) := by
  have c26 : Try.prog.cellsOf 26 = 9 := by kernel_rfl
  have c24 : Try.prog.cellsOf 24 = 6 := by kernel_rfl
  have c22 : Try.prog.cellsOf 22 = 1 := by kernel_rfl
  have c23 : Try.prog.cellsOf 23 = 1 := by kernel_rfl
  have a24 : Try.prog.keyLits 4 24 [.int .u64 (U d.a0), .int .u64 (U d.a1), .int .u64 (U d.a2), .int .u64 (U d.a3), .int .u64 (U d.a4), .int .u64 (U d.a5)] = some [.int .u64 (U d.a0), .int .u64 (U d.a1), .int .u64 (U d.a2), .int .u64 (U d.a3), .int .u64 (U d.a4), .int .u64 (U d.a5)] := by
    unfold Program.keyLits
    rw [Try.underlying24]
    dsimp only
    rw [c24, c23, if_pos (by rfl)]
    rw [show List.range 6 = [0, 1, 2, 3, 4, 5] from rfl]
    simp only [List.mapM_cons, List.mapM_nil, Nat.zero_mul, Nat.one_mul, Nat.mul_one, List.drop_zero, List.drop_succ_cons, List.take_succ_cons, List.take_zero, keyInt Try.underlying23 2 _ (wf_U _), Option.pure_def, Option.bind_eq_bind, Option.bind_some, Option.map_some]
    rfl
  show Try.prog.keyLits 5 26 d.vals = _
  unfold Program.keyLits
  rw [Try.underlying26]
  dsimp only
  rw [c26, if_pos (by exact ⟨rfl, by decide +kernel⟩)]
  simp only [List.toList_toArray, List.mapM_cons, List.mapM_nil, c22, c23, c24, Dt.vals, List.drop_zero, List.drop_succ_cons, List.take_succ_cons, List.take_zero, keyInt Try.underlying22 3 _ h.1, keyInt Try.underlying22 3 _ h.2, keyInt Try.underlying23 3 _ (wf_U _), a24, Option.pure_def, Option.bind_eq_bind, Option.bind_some, Option.map_some]
  rfl
theorem formed (d : Dt) : Value.formed Try.prog 26 (Value.agg d.vals.toArray) = true := by kernel_rfl
theorem eq_data (a b : Dt) (ha : Dt.small a) (hb : Dt.small b) (w : World) : (Op.equalIn 10000 26 (.agg a.vals.toArray) (.agg b.vals.toArray)).run Try.prog w = .ok (eqB a b) w := by
  obtain ⟨r, hr, hiff⟩ := run_equalIn_deep (P := Try.prog) 1000 9000 26 keyTy w 5 5 _ _ _ _ (formed a) (formed b) (lits_of a ha) (lits_of b hb)
  have e : r = eqB a b := by
    rw [Bool.eq_iff_iff, hiff, lits_inj, eqB_iff]
  rw [← e]
  exact hr
theorem str_inj {x y : List Int} (hx : isBytes x) (hy : isBytes y) : ((strOfNums x).toList == (strOfNums y).toList) = decide (x = y) := by
  rw [Bool.eq_iff_iff]
  simp only [beq_iff_eq, decide_eq_true_eq]
  refine ⟨fun h => ?_, fun h => by rw [h]⟩
  have h2 : (x.map fun n => UInt8.ofNat n.toNat) = y.map fun n => UInt8.ofNat n.toNat := by
    have e : ∀ z, (strOfNums z).toList = z.map fun n => UInt8.ofNat n.toNat := fun z => by
      simp [strOfNums, ByteArray.toList_eq]
    rw [e, e] at h
    exact h
  clear h
  induction x generalizing y with
  | nil => cases y with
    | nil => rfl
    | cons b y => simp at h2
  | cons a x ih => cases y with
    | nil => simp at h2
    | cons b y =>
      simp only [List.map_cons, List.cons.injEq] at h2
      have ha := hx a (by simp)
      have hb := hy b (by simp)
      have e := congrArg UInt8.toNat h2.1
      simp only [UInt8.toNat_ofNat'] at e
      have e1 : a = b := by omega
      rw [e1, ih (fun z hz => hx z (by simp [hz])) (fun z hz => hy z (by simp [hz])) h2.2]
end Go.Proofs.Ytplplillpjnnnaa.Common
