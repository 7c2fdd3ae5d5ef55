/- The given row of WordBack, proved: for every word, place, count and other word the law returns true, and its argument reads as it read before. Conditions: none beyond those of the row. -/
import Derived.Test.YtppbbhpaoflhnaaRows
import Derived.Test.YtppbbhpaoflhnaaPureWordBack
import Derived.WalkKit
import Derived.ProofKit
import Derived.OpenShut
import Derived.ShutString
import Derived.ChangeOld
import Derived.Below
import Derived.SizedLaws
import Derived.Lib.SmallJoins
import Derived.Deep.Slices
import Derived.Deep.Fields
import Derived.ChangeSame
namespace Go.Proofs.Ytppbbhpaoflhnaa.wordBack
open Go.ChangeShapes Go.WideShapes Go.ChangeAt Go.RowKit Go.Deep Go.Joins
open Go.ChangeMaps (open_string shut_string)
set_option linter.unusedVariables false
set_option linter.unusedSimpArgs false
theorem own : ownKnob Try.prog.godebug = none := by kernel_rfl
theorem laidOut : laidOutB Try.prog = true := by kernel_rfl
theorem cells36 : Try.prog.cellsOf 36 = 4 := by kernel_rfl
set_option maxRecDepth 100000 in
theorem law {H : Type} {enc : TypeId × Value → H} (W : World) (v0 : Value) (d0 : DataW H) (p0 : List MemPlace) (h0 : DataW.Trod enc Try.prog W 0 (fun _ => true) true 36 v0 d0 p0) (o0 : Value.okWide Try.prog W .any 0 36 v0) (hsz : (DataW.weightsEach Try.prog [36] [d0]).all (· ≤ reachBytes) = true) :
    Calls Try.prog 6 #[v0] W fun e w' => e = .returned (.bool true) ∧ Below W.heap.size W w' := by
  obtain ⟨c00, c01, c02, c03, y00, y01, y02, y03, n0, rfl, _, _, g00, g01, g02, g03⟩ := open_agg4 Try.underlying36 (by kernel_rfl) cells36 o0 h0
  obtain ⟨v, e00, _, w00⟩ := DataW.trod_int Try.underlying26 g00
  obtain ⟨x, e01, _, w01⟩ := DataW.trod_int Try.underlying26 g01
  obtain ⟨lo, e02, _, w02⟩ := DataW.trod_int Try.underlying3 g02
  obtain ⟨n, e03, _, w03⟩ := DataW.trod_int Try.underlying3 g03
  obtain rfl := (List.cons.inj e00).1
  obtain rfl := (List.cons.inj e01).1
  obtain rfl := (List.cons.inj e02).1
  obtain rfl := (List.cons.inj e03).1
  obtain ⟨k, hk⟩ := Pure.WordBack.holds v x lo n w00 w01
  exact PWordBack.ravelinlaw01_WordBack.calls k v x lo n true W hk
set_option maxRecDepth 100000 in
theorem lifted (os : Os) (started : os.Started) (H : Type) (enc : TypeId × Value → H) :
    ReturnsInHanded {} Try.checked os 6 .any (Rows.wordBackSpec.pre6 enc Try.prog Try.f6 Rows.wordBackRow.domain false) (Rows.wordBackSpec.post enc Try.prog Try.f6 false true false false) := by
  refine returnsInHanded_of_change_sized (C := Try.checked) own started (by kernel_rfl) Try.func6
    (ChangeSpec.witness6 (enc := enc) (C := Try.checked) false ⟨#[], #[.agg #[.int .u64 0, .int .u64 0, .int .i64 0, .int .i64 0]], []⟩ 8 (by kernel_rfl) (by kernel_rfl) (by kernel_rfl) (by kernel_rfl)) ?_
  intro W base args ds gs before hval0 hW hcnd hsz0 _
  have hsz : (DataW.weightsEach Try.prog (Try.f6.params.toList ++ Rows.wordBackSpec.plain.varTypes Try.prog) (ds ++ gs)).all (· ≤ reachBytes) = true := hsz0
  have hval : ∀ (j : Nat) t v, Try.f6.params[j]? = some t → args[j]? = some v → Value.okWide Try.prog W .any base t v := hval0
  have hW' := hW
  obtain ⟨p, q, hA0, hV, rfl, hfz, hnd⟩ := hW
  have hA : DataW.TrodAll enc Try.prog W 0 (fun _ => true) true Try.f6.params.toList args.toList ds p := hA0
  rw [Try.params6] at hA hval hsz
  obtain ⟨v0, vs0, d0, ds0, p0, q0, hargs, rfl, rfl, h0, r0⟩ := trodAll_cons hA
  obtain ⟨rfl, rfl, rfl⟩ := trodAll_nil r0
  obtain rfl : args = #[v0] := by cases args; simp_all
  obtain ⟨rfl, rfl⟩ := trodVars_none hV
  have k0 := h0
  have lt0 : ∀ x ∈ p0, x.block < W.heap.size := by obtain ⟨m, hm⟩ := k0; exact DataW.trod_lt m _ _ _ hm
  refine (law (enc := enc) W v0 d0 p0 h0 (hval 0 36 v0 rfl rfl) hsz).mono fun e W' ⟨he, bel⟩ => ?_
  subst he
  exact ⟨_, rfl, _, _, _, [], _, [], hW', trodAll_mk1 (shut_bool Try.underlying4 _), (trodAll_cons_mk (Below.trod laidOut (by kernel_rfl) (of_decide_eq_true (by kernel_rfl)) k0 bel lt0) trodAll_mk0), rfl, bel.frame _, fun h => by cases h⟩
theorem over : Rows.wordBackRow.holds Try.pinned (OpenSpec.ofChange Rows.wordBackSpec) :=
  OpenClaim.holds_of_wide 6 Try.f6 rfl rfl rfl rfl rfl rfl rfl ⟨rfl, rfl, rfl, rfl, rfl⟩ rfl rfl rfl rfl rfl (by kernel_rfl) Try.func6 (by kernel_rfl)
    (of_decide_eq_true (by kernel_rfl)) (by unfold Func.isWrapper; first | (rw [if_pos (by decide +kernel)]; kernel_rfl) | (rw [if_neg (by decide +kernel)]; exact ⟨rfl, rfl⟩))
    (fun os started H enc _ => lifted os started H enc)
end Go.Proofs.Ytppbbhpaoflhnaa.wordBack
namespace Go.Proofs.Ytppbbhpaoflhnaa
/-- The row, under a short name, for the claim. -/
theorem wordBack_holds : Rows.WordBackSaid := wordBack.over
end Go.Proofs.Ytppbbhpaoflhnaa
