/- The given row of WordBytes, proved: for all bytes and every list of places, counts and numbers the law returns true, and its arguments read as they read before. Conditions: none beyond those of the row. -/
import Derived.Test.YtppbbhpaoflhnaaRows
import Derived.Test.YtppbbhpaoflhnaaWalkWordBytes
import Derived.Test.YtppbbhpaoflhnaaArgs
import Derived.WalkKit
import Derived.ProofKit
import Derived.OpenShut
import Derived.ShutString
import Derived.ChangeOld
import Derived.Below
import Derived.SizedLaws
import Derived.Lib.SmallJoins
import Derived.Deep.Slices
import Derived.Deep.Fields
import Derived.ChangeSame
namespace Go.Proofs.Ytppbbhpaoflhnaa.wordBytes
open Go.ChangeShapes Go.WideShapes Go.ChangeAt Go.RowKit Go.Deep Go.Joins
open Go.ChangeMaps (open_string shut_string)
set_option linter.unusedVariables false
set_option linter.unusedSimpArgs false
theorem own : ownKnob Try.prog.godebug = none := by kernel_rfl
theorem laidOut : laidOutB Try.prog = true := by kernel_rfl
open Go.Proofs.YtppbbhpaoflhnaaW.PrintWords
theorem byte_elem {H : Type} {enc : TypeId × Value → H} {W : World} (fuel : Nat) (cs : List Value) (x : DataW H × List MemPlace) (h : DataW.trod enc Try.prog W 0 (fun _ => true) true fuel 5 cs = some x) :
    ∃ y, (Kd.int .u8).K W y cs ∧ (0 ≤ y ∧ y < 256) := by
  obtain ⟨n, rfl, _, hw⟩ := DataW.trod_int Try.underlying5 h
  refine ⟨n, rfl, ?_⟩
  have h' : 0 ≤ n ∧ n ≤ 255 := by simpa [Lit.wf, IntKind.min, IntKind.max, IntKind.bits, IntKind.signed] using hw
  omega

theorem elem {H : Type} {enc : TypeId × Value → H} {W : World} (fuel : Nat) (cs : List Value) (x : DataW H × List MemPlace) (h : DataW.trod enc Try.prog W 0 (fun _ => true) true fuel 49 cs = some x) :
    ∃ y, PWordBytes.k49.K W y cs ∧ (Lit.int .u64 y.f2).wf = true := by
  obtain ⟨hlen, hf⟩ := Args.struct_cells Try.underlying49 (by kernel_rfl) (by kernel_rfl) h
  obtain ⟨u0, y0, n0, e0, t0⟩ := hf 0 _ rfl
  obtain ⟨u1, y1, n1, e1, t1⟩ := hf 1 _ rfl
  obtain ⟨u2, y2, n2, e2, t2⟩ := hf 2 _ rfl
  obtain ⟨a0, rfl, w0⟩ := Args.int_cell Try.underlying3 t0
  obtain ⟨a1, rfl, w1⟩ := Args.int_cell Try.underlying3 t1
  obtain ⟨a2, rfl, w2⟩ := Args.int_cell Try.underlying26 t2
  have hcs : cs = [.int .i64 a0, .int .i64 a1, .int .u64 a2] := by
    match cs, hlen with
    | [c0, c1, c2], _ => simp_all
  refine ⟨⟨a0, a1, a2⟩, ?_, w2⟩
  rw [hcs]
  exact PWordBytes.k49_mk W ⟨a0, a1, a2⟩

set_option maxRecDepth 100000 in
theorem law {H : Type} {enc : TypeId × Value → H} (W : World) (v0 : Value) (d0 : DataW H) (p0 : List MemPlace) (v1 : Value) (d1 : DataW H) (p1 : List MemPlace) (h0 : DataW.Trod enc Try.prog W 0 (fun _ => true) true 43 v0 d0 p0) (o0 : Value.okWide Try.prog W .any 0 43 v0) (h1 : DataW.Trod enc Try.prog W 0 (fun _ => true) true 44 v1 d1 p1) (o1 : Value.okWide Try.prog W .any 0 44 v1) (hsz : (DataW.weightsEach Try.prog [43, 44] [d0, d1]).all (· ≤ reachBytes) = true) :
    Calls Try.prog 8 #[v0, v1] W fun e w' => e = .returned (.bool true) ∧ Below W.heap.size W w' := by
  obtain ⟨A, cap, l, rfl, hl, _, hz, hr, hg⟩ := Args.slice_reads (d := Kd.int .u8) (fun x => 0 ≤ x ∧ x < 256) hsz (j := 0) rfl rfl Try.underlying43 (by kernel_rfl) byte_elem o0 h0
  have hz' : cap * 1 ≤ reachBytes := hz
  unfold reachBytes at hz'
  obtain ⟨A1, cap1, ps, rfl, hl1, _, hz1, hr1, hg1⟩ := Args.slice_reads (d := PWordBytes.k49) (fun x => (Lit.int .u64 x.f2).wf = true) hsz (j := 1) rfl rfl Try.underlying44 (by kernel_rfl) elem o1 h1
  have hz1' : cap1 * 24 ≤ reachBytes := hz1
  unfold reachBytes at hz1'
  exact BytesWalk.walk 100 A cap l A1 cap1 ps W hr hl (by omega) hg hr1 hl1 (by omega) hg1 (Pure.WordBytes.head_eq _ (by omega))
set_option maxRecDepth 100000 in
theorem lifted (os : Os) (started : os.Started) (H : Type) (enc : TypeId × Value → H) :
    ReturnsInHanded {} Try.checked os 8 .any (Rows.wordBytesSpec.pre6 enc Try.prog Try.f8 Rows.wordBytesRow.domain false) (Rows.wordBytesSpec.post enc Try.prog Try.f8 false true false false) := by
  refine returnsInHanded_of_change_sized (C := Try.checked) own started (by kernel_rfl) Try.func8
    (ChangeSpec.witness6 (enc := enc) (C := Try.checked) false ⟨#[], #[.slice none 0 0, .slice none 0 0], []⟩ 8 (by kernel_rfl) (by kernel_rfl) (by kernel_rfl) (by kernel_rfl)) ?_
  intro W base args ds gs before hval0 hW hcnd hsz0 _
  have hsz : (DataW.weightsEach Try.prog (Try.f8.params.toList ++ Rows.wordBytesSpec.plain.varTypes Try.prog) (ds ++ gs)).all (· ≤ reachBytes) = true := hsz0
  have hval : ∀ (j : Nat) t v, Try.f8.params[j]? = some t → args[j]? = some v → Value.okWide Try.prog W .any base t v := hval0
  have hW' := hW
  obtain ⟨p, q, hA0, hV, rfl, hfz, hnd⟩ := hW
  have hA : DataW.TrodAll enc Try.prog W 0 (fun _ => true) true Try.f8.params.toList args.toList ds p := hA0
  rw [Try.params8] at hA hval hsz
  obtain ⟨v0, vs0, d0, ds0, p0, q0, hargs, rfl, rfl, h0, r0⟩ := trodAll_cons hA
  obtain ⟨v1, vs1, d1, ds1, p1, q1, rfl, rfl, rfl, h1, r1⟩ := trodAll_cons r0
  obtain ⟨rfl, rfl, rfl⟩ := trodAll_nil r1
  obtain rfl : args = #[v0, v1] := by cases args; simp_all
  obtain ⟨rfl, rfl⟩ := trodVars_none hV
  have k0 := h0
  have lt0 : ∀ x ∈ p0, x.block < W.heap.size := by obtain ⟨m, hm⟩ := k0; exact DataW.trod_lt m _ _ _ hm
  have k1 := h1
  have lt1 : ∀ x ∈ p1, x.block < W.heap.size := by obtain ⟨m, hm⟩ := k1; exact DataW.trod_lt m _ _ _ hm
  refine (law (enc := enc) W v0 d0 p0 v1 d1 p1 h0 (hval 0 43 v0 rfl rfl) h1 (hval 1 44 v1 rfl rfl) hsz).mono fun e W' ⟨he, bel⟩ => ?_
  subst he
  exact ⟨_, rfl, _, _, _, [], _, [], hW', trodAll_mk1 (shut_bool Try.underlying4 _), (trodAll_cons_mk (Below.trod laidOut (by kernel_rfl) (of_decide_eq_true (by kernel_rfl)) k0 bel lt0) (trodAll_cons_mk (Below.trod laidOut (by kernel_rfl) (of_decide_eq_true (by kernel_rfl)) k1 bel lt1) trodAll_mk0)), rfl, bel.frame _, fun h => by cases h⟩
theorem over : Rows.wordBytesRow.holds Try.pinned (OpenSpec.ofChange Rows.wordBytesSpec) :=
  OpenClaim.holds_of_wide 8 Try.f8 rfl rfl rfl rfl rfl rfl rfl ⟨rfl, rfl, rfl, rfl, rfl⟩ rfl rfl rfl rfl rfl (by kernel_rfl) Try.func8 (by kernel_rfl)
    (of_decide_eq_true (by kernel_rfl)) (by unfold Func.isWrapper; first | (rw [if_pos (by decide +kernel)]; kernel_rfl) | (rw [if_neg (by decide +kernel)]; exact ⟨rfl, rfl⟩))
    (fun os started H enc _ => lifted os started H enc)
end Go.Proofs.Ytppbbhpaoflhnaa.wordBytes
namespace Go.Proofs.Ytppbbhpaoflhnaa
/-- The row, under a short name, for the claim. -/
theorem wordBytes_holds : Rows.WordBytesSaid := wordBytes.over
end Go.Proofs.Ytppbbhpaoflhnaa
