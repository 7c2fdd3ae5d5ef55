/- The given row of WordStored, proved: for all bytes, every place, count and number the law returns true, and its arguments read as they read before. Conditions: none beyond those of the row. -/
import Derived.Test.YtppbbhpaoflhnaaRows
import Derived.Test.YtppbbhpaoflhnaaPureWordStored
import Derived.Test.YtppbbhpaoflhnaaWalkWordStored
import Derived.Test.YtppbbhpaoflhnaaArgs
import Derived.WalkKit
import Derived.ProofKit
import Derived.OpenShut
import Derived.ShutString
import Derived.ChangeOld
import Derived.Below
import Derived.SizedLaws
import Derived.Lib.SmallJoins
import Derived.Deep.Slices
import Derived.Deep.Fields
import Derived.ChangeSame
namespace Go.Proofs.Ytppbbhpaoflhnaa.wordStored
open Go.ChangeShapes Go.WideShapes Go.ChangeAt Go.RowKit Go.Deep Go.Joins
open Go.ChangeMaps (open_string shut_string)
set_option linter.unusedVariables false
set_option linter.unusedSimpArgs false
theorem own : ownKnob Try.prog.godebug = none := by kernel_rfl
theorem laidOut : laidOutB Try.prog = true := by kernel_rfl
open Go.Proofs.YtppbbhpaoflhnaaW.PrintWords
theorem byte_elem {H : Type} {enc : TypeId × Value → H} {W : World} (fuel : Nat) (cs : List Value) (x : DataW H × List MemPlace) (h : DataW.trod enc Try.prog W 0 (fun _ => true) true fuel 5 cs = some x) :
    ∃ y, (Kd.int .u8).K W y cs ∧ (0 ≤ y ∧ y < 256) := by
  obtain ⟨n, rfl, _, hw⟩ := DataW.trod_int Try.underlying5 h
  refine ⟨n, rfl, ?_⟩
  have h' : 0 ≤ n ∧ n ≤ 255 := by simpa [Lit.wf, IntKind.min, IntKind.max, IntKind.bits, IntKind.signed] using hw
  omega

set_option maxRecDepth 100000 in
theorem law {H : Type} {enc : TypeId × Value → H} (W : World) (v0 : Value) (d0 : DataW H) (p0 : List MemPlace) (v1 : Value) (d1 : DataW H) (p1 : List MemPlace) (h0 : DataW.Trod enc Try.prog W 0 (fun _ => true) true 43 v0 d0 p0) (o0 : Value.okWide Try.prog W .any 0 43 v0) (h1 : DataW.Trod enc Try.prog W 0 (fun _ => true) true 49 v1 d1 p1) (o1 : Value.okWide Try.prog W .any 0 49 v1) (hsz : (DataW.weightsEach Try.prog [43, 49] [d0, d1]).all (· ≤ reachBytes) = true) :
    Calls Try.prog 9 #[v0, v1] W fun e w' => e = .returned (.bool true) ∧ Below W.heap.size W w' := by
  obtain ⟨A, cap, l, rfl, hl, _, hz, hr, hg⟩ := Args.slice_reads (d := Kd.int .u8) (fun x => 0 ≤ x ∧ x < 256) hsz (j := 0) rfl rfl Try.underlying43 (by kernel_rfl) byte_elem o0 h0
  have hz' : cap * 1 ≤ reachBytes := hz
  unfold reachBytes at hz'
  obtain ⟨c0, c1, c2, y0, y1, y2, n0, rfl, _, _, g0, g1, g2⟩ := open_agg3 Try.underlying49 (by kernel_rfl) (by kernel_rfl) o1 h1
  obtain ⟨a, rfl, wa⟩ := Args.int_cell Try.underlying3 g0
  obtain ⟨n, rfl, wn⟩ := Args.int_cell Try.underlying3 g1
  obtain ⟨v, rfl, wv⟩ := Args.int_cell Try.underlying26 g2
  obtain ⟨v, rfl⟩ := Bits.U_of wv
  by_cases h : Pure.WordStored.ok l a n
  · obtain ⟨q1, q2, q3, q4⟩ := h
    have ea : a = ((a.toNat : Nat) : Int) := by omega
    refine StoredWalk.walk_ok 100 A cap l a n (Bits.U v) W hr hl (by omega) (Pure.WordStored.head_eq _ (by omega)) (Bits.st l a.toNat v n.toNat) (Pure.WordStored.word_Store_yes 100 (by omega) l (by omega) a n v ⟨q1, q2, q3, q4⟩) (Bits.st_length _ _ _ _) (Bits.U (Bits.ld (Bits.st l a.toNat v n.toNat) a.toNat n.toNat))
      (Pure.WordStored.word_Load_yes 100 (by omega) _ (by rw [Bits.st_length]; omega) (Bits.st_bytes hg _ _ _) a n ⟨q1, q2, q3, by rw [Bits.st_length]; exact q4⟩) ?_ q3 q1 q2 q4 (Bits.take_st _ _ _ _ _ (Nat.le_refl _)) (Bits.drop_st _ _ _ _ _ (by omega))
    rw [Pure.WordStored.word_Zext_eq, Bits.ld_st hg _ _ _ (by omega)]
    have e : ((8 * n.toNat : Nat) : Int) = 8 * n := by omega
    rw [e]
  · exact StoredWalk.walk_err 100 A cap l a n (Bits.U v) W hr hl (by omega) (Pure.WordStored.head_eq _ (by omega)) (Pure.WordStored.word_Store_no 100 l (by omega) a n _ h)
set_option maxRecDepth 100000 in
theorem lifted (os : Os) (started : os.Started) (H : Type) (enc : TypeId × Value → H) :
    ReturnsInHanded {} Try.checked os 9 .any (Rows.wordStoredSpec.pre6 enc Try.prog Try.f9 Rows.wordStoredRow.domain false) (Rows.wordStoredSpec.post enc Try.prog Try.f9 false true false false) := by
  refine returnsInHanded_of_change_sized (C := Try.checked) own started (by kernel_rfl) Try.func9
    (ChangeSpec.witness6 (enc := enc) (C := Try.checked) false ⟨#[], #[.slice none 0 0, .agg #[.int .i64 0, .int .i64 0, .int .u64 0]], []⟩ 8 (by kernel_rfl) (by kernel_rfl) (by kernel_rfl) (by kernel_rfl)) ?_
  intro W base args ds gs before hval0 hW hcnd hsz0 _
  have hsz : (DataW.weightsEach Try.prog (Try.f9.params.toList ++ Rows.wordStoredSpec.plain.varTypes Try.prog) (ds ++ gs)).all (· ≤ reachBytes) = true := hsz0
  have hval : ∀ (j : Nat) t v, Try.f9.params[j]? = some t → args[j]? = some v → Value.okWide Try.prog W .any base t v := hval0
  have hW' := hW
  obtain ⟨p, q, hA0, hV, rfl, hfz, hnd⟩ := hW
  have hA : DataW.TrodAll enc Try.prog W 0 (fun _ => true) true Try.f9.params.toList args.toList ds p := hA0
  rw [Try.params9] at hA hval hsz
  obtain ⟨v0, vs0, d0, ds0, p0, q0, hargs, rfl, rfl, h0, r0⟩ := trodAll_cons hA
  obtain ⟨v1, vs1, d1, ds1, p1, q1, rfl, rfl, rfl, h1, r1⟩ := trodAll_cons r0
  obtain ⟨rfl, rfl, rfl⟩ := trodAll_nil r1
  obtain rfl : args = #[v0, v1] := by cases args; simp_all
  obtain ⟨rfl, rfl⟩ := trodVars_none hV
  have k0 := h0
  have lt0 : ∀ x ∈ p0, x.block < W.heap.size := by obtain ⟨m, hm⟩ := k0; exact DataW.trod_lt m _ _ _ hm
  have k1 := h1
  have lt1 : ∀ x ∈ p1, x.block < W.heap.size := by obtain ⟨m, hm⟩ := k1; exact DataW.trod_lt m _ _ _ hm
  refine (law (enc := enc) W v0 d0 p0 v1 d1 p1 h0 (hval 0 43 v0 rfl rfl) h1 (hval 1 49 v1 rfl rfl) hsz).mono fun e W' ⟨he, bel⟩ => ?_
  subst he
  exact ⟨_, rfl, _, _, _, [], _, [], hW', trodAll_mk1 (shut_bool Try.underlying4 _), (trodAll_cons_mk (Below.trod laidOut (by kernel_rfl) (of_decide_eq_true (by kernel_rfl)) k0 bel lt0) (trodAll_cons_mk (Below.trod laidOut (by kernel_rfl) (of_decide_eq_true (by kernel_rfl)) k1 bel lt1) trodAll_mk0)), rfl, bel.frame _, fun h => by cases h⟩
theorem over : Rows.wordStoredRow.holds Try.pinned (OpenSpec.ofChange Rows.wordStoredSpec) :=
  OpenClaim.holds_of_wide 9 Try.f9 rfl rfl rfl rfl rfl rfl rfl ⟨rfl, rfl, rfl, rfl, rfl⟩ rfl rfl rfl rfl rfl (by kernel_rfl) Try.func9 (by kernel_rfl)
    (of_decide_eq_true (by kernel_rfl)) (by unfold Func.isWrapper; first | (rw [if_pos (by decide +kernel)]; kernel_rfl) | (rw [if_neg (by decide +kernel)]; exact ⟨rfl, rfl⟩))
    (fun os started H enc _ => lifted os started H enc)
end Go.Proofs.Ytppbbhpaoflhnaa.wordStored
namespace Go.Proofs.Ytppbbhpaoflhnaa
/-- The row, under a short name, for the claim. -/
theorem wordStored_holds : Rows.WordStoredSaid := wordStored.over
end Go.Proofs.Ytppbbhpaoflhnaa
