/- The given row of WordCuts, proved: for every list of words, places, counts and other words the law returns true, and the list reads as it read before. Conditions: none beyond those of the row. -/
import Derived.Test.YtppbbhpaoflhnaaRows
import Derived.Test.YtppbbhpaoflhnaaPureWordCuts
import Derived.Test.YtppbbhpaoflhnaaArgs
import Derived.WalkKit
import Derived.ProofKit
import Derived.OpenShut
import Derived.ShutString
import Derived.ChangeOld
import Derived.Below
import Derived.SizedLaws
import Derived.Lib.SmallJoins
import Derived.Deep.Slices
import Derived.Deep.Fields
import Derived.ChangeSame
namespace Go.Proofs.Ytppbbhpaoflhnaa.wordCuts
open Go.ChangeShapes Go.WideShapes Go.ChangeAt Go.RowKit Go.Deep Go.Joins
open Go.ChangeMaps (open_string shut_string)
set_option linter.unusedVariables false
set_option linter.unusedSimpArgs false
theorem own : ownKnob Try.prog.godebug = none := by kernel_rfl
theorem laidOut : laidOutB Try.prog = true := by kernel_rfl
theorem elem {H : Type} {enc : TypeId × Value → H} {W : World} (fuel : Nat) (cs : List Value) (x : DataW H × List MemPlace) (h : DataW.trod enc Try.prog W 0 (fun _ => true) true fuel 36 cs = some x) :
    ∃ y, PWordCuts.k36.K W y cs ∧ ((Lit.int .u64 y.f0).wf = true ∧ (Lit.int .u64 y.f1).wf = true) := by
  obtain ⟨hlen, hf⟩ := Args.struct_cells Try.underlying36 (by kernel_rfl) (by kernel_rfl) h
  obtain ⟨u0, y0, n0, e0, t0⟩ := hf 0 _ rfl
  obtain ⟨u1, y1, n1, e1, t1⟩ := hf 1 _ rfl
  obtain ⟨u2, y2, n2, e2, t2⟩ := hf 2 _ rfl
  obtain ⟨u3, y3, n3, e3, t3⟩ := hf 3 _ rfl
  obtain ⟨a0, rfl, w0⟩ := Args.int_cell Try.underlying26 t0
  obtain ⟨a1, rfl, w1⟩ := Args.int_cell Try.underlying26 t1
  obtain ⟨a2, rfl, w2⟩ := Args.int_cell Try.underlying3 t2
  obtain ⟨a3, rfl, w3⟩ := Args.int_cell Try.underlying3 t3
  have hcs : cs = [.int .u64 a0, .int .u64 a1, .int .i64 a2, .int .i64 a3] := by
    match cs, hlen with
    | [c0, c1, c2, c3], _ => simp_all
  refine ⟨⟨a0, a1, a2, a3⟩, ?_, w0, w1⟩
  rw [hcs]
  exact PWordCuts.k36_mk W ⟨a0, a1, a2, a3⟩
set_option maxRecDepth 100000 in
theorem law {H : Type} {enc : TypeId × Value → H} (W : World) (v0 : Value) (d0 : DataW H) (p0 : List MemPlace) (h0 : DataW.Trod enc Try.prog W 0 (fun _ => true) true 34 v0 d0 p0) (o0 : Value.okWide Try.prog W .any 0 34 v0) (hsz : (DataW.weightsEach Try.prog [34] [d0]).all (· ≤ reachBytes) = true) :
    Calls Try.prog 5 #[v0] W fun e w' => e = .returned (.bool true) ∧ Below W.heap.size W w' := by
  obtain ⟨A, cap, xs, rfl, hl, _, hz, hr, hg⟩ := Args.slice_reads (d := PWordCuts.k36) (fun x => (Lit.int .u64 x.f0).wf = true ∧ (Lit.int .u64 x.f1).wf = true) hsz (j := 0) rfl rfl Try.underlying34 (by kernel_rfl) elem o0 h0
  have hz' : cap * 32 ≤ reachBytes := hz
  unfold reachBytes at hz'
  obtain ⟨k, hk⟩ := Pure.WordCuts.holds xs (by omega) hg
  exact PWordCuts.ravelinlaw01_WordCuts.calls k A cap xs true W hr hl hk
set_option maxRecDepth 100000 in
theorem lifted (os : Os) (started : os.Started) (H : Type) (enc : TypeId × Value → H) :
    ReturnsInHanded {} Try.checked os 5 .any (Rows.wordCutsSpec.pre6 enc Try.prog Try.f5 Rows.wordCutsRow.domain false) (Rows.wordCutsSpec.post enc Try.prog Try.f5 false true false false) := by
  refine returnsInHanded_of_change_sized (C := Try.checked) own started (by kernel_rfl) Try.func5
    (ChangeSpec.witness6 (enc := enc) (C := Try.checked) false ⟨#[], #[.slice none 0 0], []⟩ 8 (by kernel_rfl) (by kernel_rfl) (by kernel_rfl) (by kernel_rfl)) ?_
  intro W base args ds gs before hval0 hW hcnd hsz0 _
  have hsz : (DataW.weightsEach Try.prog (Try.f5.params.toList ++ Rows.wordCutsSpec.plain.varTypes Try.prog) (ds ++ gs)).all (· ≤ reachBytes) = true := hsz0
  have hval : ∀ (j : Nat) t v, Try.f5.params[j]? = some t → args[j]? = some v → Value.okWide Try.prog W .any base t v := hval0
  have hW' := hW
  obtain ⟨p, q, hA0, hV, rfl, hfz, hnd⟩ := hW
  have hA : DataW.TrodAll enc Try.prog W 0 (fun _ => true) true Try.f5.params.toList args.toList ds p := hA0
  rw [Try.params5] at hA hval hsz
  obtain ⟨v0, vs0, d0, ds0, p0, q0, hargs, rfl, rfl, h0, r0⟩ := trodAll_cons hA
  obtain ⟨rfl, rfl, rfl⟩ := trodAll_nil r0
  obtain rfl : args = #[v0] := by cases args; simp_all
  obtain ⟨rfl, rfl⟩ := trodVars_none hV
  have k0 := h0
  have lt0 : ∀ x ∈ p0, x.block < W.heap.size := by obtain ⟨m, hm⟩ := k0; exact DataW.trod_lt m _ _ _ hm
  refine (law (enc := enc) W v0 d0 p0 h0 (hval 0 34 v0 rfl rfl) hsz).mono fun e W' ⟨he, bel⟩ => ?_
  subst he
  exact ⟨_, rfl, _, _, _, [], _, [], hW', trodAll_mk1 (shut_bool Try.underlying4 _), (trodAll_cons_mk (Below.trod laidOut (by kernel_rfl) (of_decide_eq_true (by kernel_rfl)) k0 bel lt0) trodAll_mk0), rfl, bel.frame _, fun h => by cases h⟩
theorem over : Rows.wordCutsRow.holds Try.pinned (OpenSpec.ofChange Rows.wordCutsSpec) :=
  OpenClaim.holds_of_wide 5 Try.f5 rfl rfl rfl rfl rfl rfl rfl ⟨rfl, rfl, rfl, rfl, rfl⟩ rfl rfl rfl rfl rfl (by kernel_rfl) Try.func5 (by kernel_rfl)
    (of_decide_eq_true (by kernel_rfl)) (by unfold Func.isWrapper; first | (rw [if_pos (by decide +kernel)]; kernel_rfl) | (rw [if_neg (by decide +kernel)]; exact ⟨rfl, rfl⟩))
    (fun os started H enc _ => lifted os started H enc)
end Go.Proofs.Ytppbbhpaoflhnaa.wordCuts
namespace Go.Proofs.Ytppbbhpaoflhnaa
/-- The row, under a short name, for the claim. -/
theorem wordCuts_holds : Rows.WordCutsSaid := wordCuts.over
end Go.Proofs.Ytppbbhpaoflhnaa
