/- How an argument of data opens: nine words, the first two of 32 bits. Conditions: the argument reads as data. -/
import Derived.Test.YtplplillpjnnnaaEq
import Derived.OpenShut
namespace Go.Proofs.Ytplplillpjnnnaa.OpenData
open Go.ChangeShapes Go.WideShapes Go.RowKit Go.Deep Go.Joins Go.Proofs.Ytplplillpjnnnaa.Bits Go.Proofs.Ytplplillpjnnnaa.Dat Go.Proofs.Ytplplillpjnnnaa.Common
set_option linter.unusedVariables false

theorem u32_of {n : Int} (h : (Lit.int .u32 n).wf = true) : ∃ x : BitVec 64, n = U x := by
  refine U_of ?_
  simp only [Lit.wf, IntKind.min, IntKind.max, IntKind.bits, IntKind.signed, Bool.false_eq_true, if_false, Bool.and_eq_true, decide_eq_true_eq] at h ⊢
  omega
theorem open_data {H : Type} {enc : TypeId × Value → H} {W : World} {v : Value} {D : DataW H} {p : List MemPlace} {r : Reach} (ho : Value.okWide Try.prog W r 0 26 v) (h : DataW.Trod enc Try.prog W 0 (fun _ => true) true 26 v D p) :
    ∃ d : Dt, Dt.small d ∧ v = .agg #[.int .u32 (U d.nr), .int .u32 (U d.arch), .int .u64 (U d.ip), .int .u64 (U d.a0), .int .u64 (U d.a1), .int .u64 (U d.a2), .int .u64 (U d.a3), .int .u64 (U d.a4), .int .u64 (U d.a5)] := by
  have c26 : Try.prog.cellsOf 26 = 9 := by kernel_rfl
  have c24 : Try.prog.cellsOf 24 = 6 := by kernel_rfl
  have c22 : Try.prog.cellsOf 22 = 1 := by kernel_rfl
  have c23 : Try.prog.cellsOf 23 = 1 := by kernel_rfl
  obtain ⟨cs, rfl, hsz⟩ := okWide_struct Try.underlying26 ho
  obtain ⟨l⟩ := cs
  have hl : l.length = 9 := by rw [c26] at hsz; simpa using hsz
  obtain ⟨fuel, hf⟩ := h
  obtain ⟨xs, n, _, _, _, hxl, hg⟩ := DataW.trod_struct Try.underlying26 hf
  match l, hl with
  | [v0, v1, v2, v3, v4, v5, v6, v7, v8], _ =>
    have hx : xs.length = 4 := hxl
    match xs, hx with
    | [x0, x1, x2, x3], _ =>
      have g0 : DataW.trod enc Try.prog W 0 (fun _ => true) true n 22 [v0] = some x0 := by
        have t : DataW.trod enc Try.prog W 0 (fun _ => true) true n 22 (List.take (Try.prog.cellsOf 22) (List.drop 0 [v0, v1, v2, v3, v4, v5, v6, v7, v8])) = some x0 := hg 0 _ rfl
        rw [c22] at t
        exact t
      have g1 : DataW.trod enc Try.prog W 0 (fun _ => true) true n 22 [v1] = some x1 := by
        have t : DataW.trod enc Try.prog W 0 (fun _ => true) true n 22 (List.take (Try.prog.cellsOf 22) (List.drop 1 [v0, v1, v2, v3, v4, v5, v6, v7, v8])) = some x1 := hg 1 _ rfl
        rw [c22] at t
        exact t
      have g2 : DataW.trod enc Try.prog W 0 (fun _ => true) true n 23 [v2] = some x2 := by
        have t : DataW.trod enc Try.prog W 0 (fun _ => true) true n 23 (List.take (Try.prog.cellsOf 23) (List.drop 2 [v0, v1, v2, v3, v4, v5, v6, v7, v8])) = some x2 := hg 2 _ rfl
        rw [c23] at t
        exact t
      have g3 : DataW.trod enc Try.prog W 0 (fun _ => true) true n 24 [v3, v4, v5, v6, v7, v8] = some x3 := by
        have t : DataW.trod enc Try.prog W 0 (fun _ => true) true n 24 (List.take (Try.prog.cellsOf 24) (List.drop 3 [v0, v1, v2, v3, v4, v5, v6, v7, v8])) = some x3 := hg 3 _ rfl
        rw [c24] at t
        exact t
      obtain ⟨ys, m, _, _, _, hyl, ha⟩ := DataW.trod_array Try.underlying24 g3
      rw [c23] at ha
      match ys, hyl with
      | [y0, y1, y2, y3, y4, y5], _ =>
        obtain ⟨nr, rfl, w0⟩ := Args.int_cell Try.underlying22 g0
        obtain ⟨arch, rfl, w1⟩ := Args.int_cell Try.underlying22 g1
        obtain ⟨ip, rfl, w2⟩ := Args.int_cell Try.underlying23 g2
        obtain ⟨a0, rfl, w3⟩ := Args.int_cell Try.underlying23 (show DataW.trod enc Try.prog W 0 (fun _ => true) true m 23 [v3] = some y0 from ha 0 (by omega))
        obtain ⟨a1, rfl, w4⟩ := Args.int_cell Try.underlying23 (show DataW.trod enc Try.prog W 0 (fun _ => true) true m 23 [v4] = some y1 from ha 1 (by omega))
        obtain ⟨a2, rfl, w5⟩ := Args.int_cell Try.underlying23 (show DataW.trod enc Try.prog W 0 (fun _ => true) true m 23 [v5] = some y2 from ha 2 (by omega))
        obtain ⟨a3, rfl, w6⟩ := Args.int_cell Try.underlying23 (show DataW.trod enc Try.prog W 0 (fun _ => true) true m 23 [v6] = some y3 from ha 3 (by omega))
        obtain ⟨a4, rfl, w7⟩ := Args.int_cell Try.underlying23 (show DataW.trod enc Try.prog W 0 (fun _ => true) true m 23 [v7] = some y4 from ha 4 (by omega))
        obtain ⟨a5, rfl, w8⟩ := Args.int_cell Try.underlying23 (show DataW.trod enc Try.prog W 0 (fun _ => true) true m 23 [v8] = some y5 from ha 5 (by omega))
        obtain ⟨b0, rfl⟩ := u32_of w0
        obtain ⟨b1, rfl⟩ := u32_of w1
        obtain ⟨b2, rfl⟩ := U_of w2
        obtain ⟨b3, rfl⟩ := U_of w3
        obtain ⟨b4, rfl⟩ := U_of w4
        obtain ⟨b5, rfl⟩ := U_of w5
        obtain ⟨b6, rfl⟩ := U_of w6
        obtain ⟨b7, rfl⟩ := U_of w7
        obtain ⟨b8, rfl⟩ := U_of w8
        exact ⟨⟨b0, b1, b2, b3, b4, b5, b6, b7, b8⟩, ⟨w0, w1⟩, rfl⟩
end Go.Proofs.Ytplplillpjnnnaa.OpenData
