/- Joined out of this claim's texts: EDo, EDo2, PRows, PMeth, PFix. Conditions: those of each theorem. -/
import Derived.Test.YtcgkgaibomcheaaGreatZC01
import Derived.Test.YtcgkgaibomcheaaGreatZC13
import Derived.Test.YtcgkgaibomcheaaGreatZC03
import Derived.Test.YtcgkgaibomcheaaGreatZC12
import Derived.Handy
set_option linter.unusedVariables false
set_option linter.unusedSimpArgs false
section
namespace Go.Proofs.YtcgkgaibomcheaaGreat.EDo
open Go.RowKit Bits Dec Mac Mb Rd Do RDec EM PRvemuRuns YtcgkgaibomcheaaGreatW.PrintWords YtcgkgaibomcheaaGreatW.PrintLast YtcgkgaibomcheaaGreatW.PrintMore
section
variable {W W' : World} {g gm : Nat} {m : Mac} {c d f t : Value}
theorem _root_.Go.Proofs.YtcgkgaibomcheaaGreat.EM.ME.write {T : Nat → Prop} (h : ME W g m c d f t gm) (hk : Kept W W' T) (hT : ∀ k, k < W.heap.size → T k → k ≠ g → ¬ own g f t k ∧ some k ≠ d.ownBlock ∧ k ≠ gm) (m' : Mac) (mb : MB 74 42 W' g (vals m' c d f t (.map (some gm)))) (e1 : m'.tr = m.tr) (e2 : m'.data = m.data) (e3 : m'.frame = m.frame) : ME W' g m' c d f t gm where
  mb := mb
  tr := by
    rw [e1]
    exact h.tr.kept hk (fun k e hh => (hT k (h.tr.lt k e) hh (fun e2 => h.g_t (by rw [← e2]; exact e))).1 (.inr (.inr e)))
  data := by
    obtain ⟨gd, cd, h1, h2, h3, h4⟩ := h.data
    rw [e2]
    exact ⟨gd, cd, h1, h2, h3.of (hk.2 gd h3.lt (fun e => (hT gd h3.lt e (fun e2 => ty_ne (mbt h.mb) (row_typed h3) (by decide) e2.symm)).2.1 (by rw [h1]; simp [Value.ownBlock]))), h4⟩
  frame := by
    rw [e3]
    exact h.frame.of fun k e hl => hk.2 k hl (fun hh => (hT k hl hh (fun e2 => h.g_f (by rw [← e2]; exact e))).1 (.inr (.inl e)))
  fty := fun k e => by
    obtain ⟨cs, h1⟩ := h.fty k e
    exact ⟨cs, (hk.2 k (blk_lt h1) (fun hh => (hT k (blk_lt h1) hh (fun e2 => h.g_f (by rw [← e2]; exact e))).1 (.inr (.inl e)))).trans h1⟩
  map := (hk.2 gm h.gm_lt (fun e => (hT gm h.gm_lt e (fun e2 => h.gm_own (.inl e2))).2.2 rfl)).trans h.map
  d64 := by rw [e2]; exact h.d64
  fl := by rw [e3]; exact h.fl
  bd := by rw [e2]; exact h.bd
  bf := by rw [e3]; exact h.bf
theorem setpc_vals (m : Mac) (c d f t q : Value) (pc : BitVec 64) (i : Nat) (hi : i ≠ 35) : vals (setpc m pc) c d f t q i = vals m c d f t q i := by
  unfold vals setpc
  simp only [if_neg hi]
theorem ahead_size (W : World) (g : Nat) (op rd rs1 rs2 imm : Int) (pc : BitVec 64) : (Do.ahead W g op rd rs1 rs2 imm pc).heap.size = W.heap.size + 4 := by
  unfold Do.ahead
  rw [World.size_setCell]
  simp only [World.size_alloc]
theorem _root_.Go.Proofs.YtcgkgaibomcheaaGreat.EM.ME.ahead (h : ME W g m c d f t gm) (op rd rs1 rs2 imm : Int) : ME (Do.ahead W g op rd rs1 rs2 imm m.pc).drew g (setpc m (m.pc + 4#64)) c d f t gm := by
  unfold Do.ahead
  exact ((h.below (below_alloc (below_alloc (below_alloc (below_alloc (Below.refl _ _) _) _) _) _)).put 35 _ (setpc m (m.pc + 4#64)) rfl (fun i _ hi => setpc_vals m _ _ _ _ _ _ i hi) rfl rfl rfl).below (below_drew1 (Below.refl _ _))
def Lft (W4 : World) (g gm : Nat) (m1 : Mac) (c d f t : Value) (w' : World) : Prop := ∃ t1, ME w' g m1 c d f t1 gm ∧ Wr (own g f t) W4 w' ∧ ∀ k, some k = t1.ownBlock → some k = t.ownBlock ∨ W4.heap.size ≤ k
theorem setx_tr (m : Mac) (rd : Nat) (r : BitVec 64) : (setx m rd r).tr = m.tr := by unfold setx; split <;> rfl
theorem setx_data (m : Mac) (rd : Nat) (r : BitVec 64) : (setx m rd r).data = m.data := by unfold setx; split <;> rfl
theorem setx_frame (m : Mac) (rd : Nat) (r : BitVec 64) : (setx m rd r).frame = m.frame := by unfold setx; split <;> rfl
theorem e49 (args : Array Value) (W : World) : (callFunc 49 args).run Tryz.prog W = .ok (.enter 49 args) W := by kernel_rfl
theorem e50 (args : Array Value) (W : World) : (callFunc 50 args).run Tryz.prog W = .ok (.enter 50 args) W := by kernel_rfl
theorem e51 (args : Array Value) (W : World) : (callFunc 51 args).run Tryz.prog W = .ok (.enter 51 args) W := by kernel_rfl
theorem e52 (args : Array Value) (W : World) : (callFunc 52 args).run Tryz.prog W = .ok (.enter 52 args) W := by kernel_rfl
theorem e53 (args : Array Value) (W : World) : (callFunc 53 args).run Tryz.prog W = .ok (.enter 53 args) W := by kernel_rfl
theorem e54 (args : Array Value) (W : World) : (callFunc 54 args).run Tryz.prog W = .ok (.enter 54 args) W := by kernel_rfl
theorem e55 (args : Array Value) (W : World) : (callFunc 55 args).run Tryz.prog W = .ok (.enter 55 args) W := by kernel_rfl
theorem e56 (args : Array Value) (W : World) : (callFunc 56 args).run Tryz.prog W = .ok (.enter 56 args) W := by kernel_rfl
theorem e57 (args : Array Value) (W : World) : (callFunc 57 args).run Tryz.prog W = .ok (.enter 57 args) W := by kernel_rfl
theorem e58 (args : Array Value) (W : World) : (callFunc 58 args).run Tryz.prog W = .ok (.enter 58 args) W := by kernel_rfl
theorem e59 (args : Array Value) (W : World) : (callFunc 59 args).run Tryz.prog W = .ok (.enter 59 args) W := by kernel_rfl
theorem e60 (args : Array Value) (W : World) : (callFunc 60 args).run Tryz.prog W = .ok (.enter 60 args) W := by kernel_rfl
theorem e61 (args : Array Value) (W : World) : (callFunc 61 args).run Tryz.prog W = .ok (.enter 61 args) W := by kernel_rfl
theorem e62 (args : Array Value) (W : World) : (callFunc 62 args).run Tryz.prog W = .ok (.enter 62 args) W := by kernel_rfl
theorem e63 (args : Array Value) (W : World) : (callFunc 63 args).run Tryz.prog W = .ok (.enter 63 args) W := by kernel_rfl
theorem e64 (args : Array Value) (W : World) : (callFunc 64 args).run Tryz.prog W = .ok (.enter 64 args) W := by kernel_rfl
theorem e65 (args : Array Value) (W : World) : (callFunc 65 args).run Tryz.prog W = .ok (.enter 65 args) W := by kernel_rfl
theorem e66 (args : Array Value) (W : World) : (callFunc 66 args).run Tryz.prog W = .ok (.enter 66 args) W := by kernel_rfl
theorem e67 (args : Array Value) (W : World) : (callFunc 67 args).run Tryz.prog W = .ok (.enter 67 args) W := by kernel_rfl
theorem e68 (args : Array Value) (W : World) : (callFunc 68 args).run Tryz.prog W = .ok (.enter 68 args) W := by kernel_rfl
theorem e69 (args : Array Value) (W : World) : (callFunc 69 args).run Tryz.prog W = .ok (.enter 69 args) W := by kernel_rfl
theorem e70 (args : Array Value) (W : World) : (callFunc 70 args).run Tryz.prog W = .ok (.enter 70 args) W := by kernel_rfl
theorem e71 (args : Array Value) (W : World) : (callFunc 71 args).run Tryz.prog W = .ok (.enter 71 args) W := by kernel_rfl
theorem e72 (args : Array Value) (W : World) : (callFunc 72 args).run Tryz.prog W = .ok (.enter 72 args) W := by kernel_rfl
theorem e73 (args : Array Value) (W : World) : (callFunc 73 args).run Tryz.prog W = .ok (.enter 73 args) W := by kernel_rfl
theorem e74 (args : Array Value) (W : World) : (callFunc 74 args).run Tryz.prog W = .ok (.enter 74 args) W := by kernel_rfl
theorem e75 (args : Array Value) (W : World) : (callFunc 75 args).run Tryz.prog W = .ok (.enter 75 args) W := by kernel_rfl
theorem e76 (args : Array Value) (W : World) : (callFunc 76 args).run Tryz.prog W = .ok (.enter 76 args) W := by kernel_rfl
theorem e77 (args : Array Value) (W : World) : (callFunc 77 args).run Tryz.prog W = .ok (.enter 77 args) W := by kernel_rfl
theorem e78 (args : Array Value) (W : World) : (callFunc 78 args).run Tryz.prog W = .ok (.enter 78 args) W := by kernel_rfl
theorem e79 (args : Array Value) (W : World) : (callFunc 79 args).run Tryz.prog W = .ok (.enter 79 args) W := by kernel_rfl
theorem e80 (args : Array Value) (W : World) : (callFunc 80 args).run Tryz.prog W = .ok (.enter 80 args) W := by kernel_rfl
theorem e81 (args : Array Value) (W : World) : (callFunc 81 args).run Tryz.prog W = .ok (.enter 81 args) W := by kernel_rfl
theorem e82 (args : Array Value) (W : World) : (callFunc 82 args).run Tryz.prog W = .ok (.enter 82 args) W := by kernel_rfl
theorem ent (fn : Nat) (h0 : 49 ≤ fn) (h1 : fn ≤ 82) (args : Array Value) (W : World) : (callFunc fn args).run Tryz.prog W = .ok (.enter fn args) W := by
  have h : fn = 49 ∨ fn = 50 ∨ fn = 51 ∨ fn = 52 ∨ fn = 53 ∨ fn = 54 ∨ fn = 55 ∨ fn = 56 ∨ fn = 57 ∨ fn = 58 ∨ fn = 59 ∨ fn = 60 ∨ fn = 61 ∨ fn = 62 ∨ fn = 63 ∨ fn = 64 ∨ fn = 65 ∨ fn = 66 ∨ fn = 67 ∨ fn = 68 ∨ fn = 69 ∨ fn = 70 ∨ fn = 71 ∨ fn = 72 ∨ fn = 73 ∨ fn = 74 ∨ fn = 75 ∨ fn = 76 ∨ fn = 77 ∨ fn = 78 ∨ fn = 79 ∨ fn = 80 ∨ fn = 81 ∨ fn = 82 := by omega
  rcases h with h | h | h | h | h | h | h | h | h | h | h | h | h | h | h | h | h | h | h | h | h | h | h | h | h | h | h | h | h | h | h | h | h | h
  · rw [h]; exact e49 args W
  · rw [h]; exact e50 args W
  · rw [h]; exact e51 args W
  · rw [h]; exact e52 args W
  · rw [h]; exact e53 args W
  · rw [h]; exact e54 args W
  · rw [h]; exact e55 args W
  · rw [h]; exact e56 args W
  · rw [h]; exact e57 args W
  · rw [h]; exact e58 args W
  · rw [h]; exact e59 args W
  · rw [h]; exact e60 args W
  · rw [h]; exact e61 args W
  · rw [h]; exact e62 args W
  · rw [h]; exact e63 args W
  · rw [h]; exact e64 args W
  · rw [h]; exact e65 args W
  · rw [h]; exact e66 args W
  · rw [h]; exact e67 args W
  · rw [h]; exact e68 args W
  · rw [h]; exact e69 args W
  · rw [h]; exact e70 args W
  · rw [h]; exact e71 args W
  · rw [h]; exact e72 args W
  · rw [h]; exact e73 args W
  · rw [h]; exact e74 args W
  · rw [h]; exact e75 args W
  · rw [h]; exact e76 args W
  · rw [h]; exact e77 args W
  · rw [h]; exact e78 args W
  · rw [h]; exact e79 args W
  · rw [h]; exact e80 args W
  · rw [h]; exact e81 args W
  · rw [h]; exact e82 args W
theorem do_via (h : ME W g m c d f t gm) (n wd : Nat) (h0 : 1 ≤ n) (h1 : n ≤ 34) (r : BitVec 64) (m1 : Mac)
    (hop : ∀ W4, ME W4 g (setpc m (m.pc + 4#64)) c d f t gm → Calls Tryz.prog (48 + n) #[.pointer (some ⟨g, 0, none⟩), insOf n wd, .int .u64 (U (ra m n wd)), .int .u64 (U (rb m n wd)), .int .u64 (U (im n wd))] W4 fun e w' => e = .returned (.int .u64 (U r)) ∧ Lft W4 g gm m1 c d f t w') :
    Calls Tryz.prog 41 #[.pointer (some ⟨g, 0, none⟩), insOf n wd] W fun e w' => e = .returned (.int .i64 0) ∧ Lft W g gm (setx m1 (fdOf n wd) r) c d f t w' := by
  have hA := h.ahead (n : Int) (fdOf n wd : Nat) (fs1Of n wd : Nat) (fs2Of n wd : Nat) (immOf (formOf n) wd)
  have hsz := ahead_size W g (n : Int) (fdOf n wd : Nat) (fs1Of n wd : Nat) (fs2Of n wd : Nat) (immOf (formOf n) wd) m.pc
  have hOp := hop _ hA
  have hO := ahead_only W g (n : Int) (fdOf n wd : Nat) (fs1Of n wd : Nat) (fs2Of n wd : Nat) (immOf (formOf n) wd) m.pc
  refine (do_ok g gm (vals m c d f t (.map (some gm))) (n : Int) (fdOf n wd : Nat) (fs1Of n wd : Nat) (fs2Of n wd : Nat) (immOf (formOf n) wd) m.pc (ra m n wd) (rb m n wd) (48 + n) W h.mb rfl rfl (fs1Of n wd) (fs2Of n wd) rfl rfl (rs1_lt n wd) (rs2_lt n wd) (vals_x _ _ _ _ _ _ _ (rs1_lt n wd)) (vals_x _ _ _ _ _ _ _ (rs2_lt n wd)) (fdOf n wd) rfl (rd_lt n wd) r
    (fun v' w1 => ∃ t1, v' = vals m1 c d f t1 (.map (some gm)) ∧ ME w1 g m1 c d f t1 gm ∧ Wr (own g f t) (Do.ahead W g (n : Int) (fdOf n wd : Nat) (fs1Of n wd : Nat) (fs2Of n wd : Nat) (immOf (formOf n) wd) m.pc).drew w1 ∧ ∀ k, some k = t1.ownBlock → some k = t.ownBlock ∨ W.heap.size + 4 ≤ k) h.gm_lt (fun e => h.gm_own (.inl e)) ?_ (fun args W => ent (48 + n) (by omega) (by omega) args W) ?_).mono ?_
  · refine hOp.mono ?_
    rintro e w' ⟨rfl, t1, a1, a2, a3⟩
    refine ⟨rfl, vals m1 c d f t1 (.map (some gm)), a1.mb, fun k k1 k2 => ?_, t1, rfl, a1, a2, fun k e => (a3 k e).imp_right (fun hle => by rw [← hsz]; exact hle)⟩
    exact a2.1.2 k (by show k < (Do.ahead _ _ _ _ _ _ _ _).heap.size; omega) (fun ho => by have := own_lt h k ho; omega)
  · intro W' hW'
    exact Tab.lookAt W' gm (hW'.trans h.map) n h0 h1
  · rintro e w' ⟨rfl, v', w1, ⟨t1, rfl, b1, b2, b3⟩, b4, b5⟩
    refine ⟨rfl, t1, ?_, ?_, fun k e => (b3 k e).imp_right (fun hle => by omega)⟩
    · refine ME.write b1 b5.1 (fun k hk hT hg => ?_) (setx m1 (fdOf n wd) r) ?_ (setx_tr _ _ _) (setx_data _ _ _) (setx_frame _ _ _)
      · rcases hT with e | ⟨e1, e2⟩
        · exact absurd e hg
        · obtain ⟨gd, cd, d1, d2, d3, d4⟩ := h.data
          refine ⟨?_, ?_, fun e => by have := h.gm_lt; omega⟩
          · rintro (e | e | e)
            · exact hg e
            · have := own_lt h k (.inr (.inl e)); omega
            · rcases b3 k e with e | e
              · have := own_lt h k (.inr (.inr e)); omega
              · omega
          · rw [d1]
            intro e
            have e : k = gd := by simpa [Value.ownBlock] using e
            have := d3.lt
            omega
      · by_cases hz : fdOf n wd = 0
        · rw [if_pos hz] at b4
          unfold setx
          rw [if_pos hz]
          exact b4
        · rw [if_neg hz] at b4
          have hv := vals_setx m1 c d f t1 (.map (some gm)) (fdOf n wd) r (rd_lt n wd) hz
          rw [← hv]
          exact b4
    · have w1 : Wr (own g f t) W (Do.ahead W g (n : Int) (fdOf n wd : Nat) (fs1Of n wd : Nat) (fs2Of n wd : Nat) (immOf (formOf n) wd) m.pc).drew := ⟨(hO.1.mono (fun k e => .inl e)).drew, hO.2⟩
      have w2 := w1.then_ b2 (fun k e => .inl e)
      exact w2.then_ b5 (fun k e => e.imp (fun e => .inl e) (fun e => e.1))
end
end Go.Proofs.YtcgkgaibomcheaaGreat.EDo
end

section
namespace Go.Proofs.YtcgkgaibomcheaaGreat.EDo2
open Go.RowKit Bits Dec Mac Mb Rd Do RDec EM EDo PRvemuRuns YtcgkgaibomcheaaGreatW.PrintWords YtcgkgaibomcheaaGreatW.PrintLast YtcgkgaibomcheaaGreatW.PrintMore
section
variable {W W' : World} {g gm : Nat} {m : Mac} {c d f t : Value}
theorem left_below (h : ME W g m c d f t gm) (hb : Below W.heap.size W W') : Lft W g gm m c d f t W' := ⟨t, h.below hb, (Wr.refl _ _).below hb, fun k e => .inl e⟩
theorem do_fault (h : ME W g m c d f t gm) (n wd : Nat) (h0 : 1 ≤ n) (h1 : n ≤ 34) (er : Int)
    (hop : ∀ W4, ME W4 g (setpc m (m.pc + 4#64)) c d f t gm → Calls Tryz.prog (48 + n) #[.pointer (some ⟨g, 0, none⟩), insOf n wd, .int .u64 (U (ra m n wd)), .int .u64 (U (rb m n wd)), .int .u64 (U (im n wd))] W4 fun e w' => e = .panicked [{ v := .iface 95 (.agg #[.int .i64 er]), recovered := false }] ∧ Below W4.heap.size W4 w') :
    Calls Tryz.prog 41 #[.pointer (some ⟨g, 0, none⟩), insOf n wd] W fun e w' => e = .returned (.int .i64 er) ∧ Lft W g gm m c d f t w' := by
  have hA := h.ahead (n : Int) (fdOf n wd : Nat) (fs1Of n wd : Nat) (fs2Of n wd : Nat) (immOf (formOf n) wd)
  have hsz := ahead_size W g (n : Int) (fdOf n wd : Nat) (fs1Of n wd : Nat) (fs2Of n wd : Nat) (immOf (formOf n) wd) m.pc
  have hOp := hop _ hA
  have hO := ahead_only W g (n : Int) (fdOf n wd : Nat) (fs1Of n wd : Nat) (fs2Of n wd : Nat) (immOf (formOf n) wd) m.pc
  refine (do_bad g gm (vals m c d f t (.map (some gm))) (n : Int) (fdOf n wd : Nat) (fs1Of n wd : Nat) (fs2Of n wd : Nat) (immOf (formOf n) wd) m.pc (ra m n wd) (rb m n wd) (48 + n) W h.mb rfl rfl (fs1Of n wd) (fs2Of n wd) rfl rfl (rs1_lt n wd) (rs2_lt n wd) (vals_x _ _ _ _ _ _ _ (rs1_lt n wd)) (vals_x _ _ _ _ _ _ _ (rs2_lt n wd)) (fdOf n wd) rfl (rd_lt n wd) er
    (fun v' w1 => v' = vals (setpc m (m.pc + 4#64)) c d f t (.map (some gm)) ∧ ME w1 g (setpc m (m.pc + 4#64)) c d f t gm ∧ Wr (own g f t) (Do.ahead W g (n : Int) (fdOf n wd : Nat) (fs1Of n wd : Nat) (fs2Of n wd : Nat) (immOf (formOf n) wd) m.pc).drew w1) h.gm_lt (fun e => h.gm_own (.inl e)) ?_ (fun args W => ent (48 + n) (by omega) (by omega) args W) ?_).mono ?_
  · refine hOp.mono ?_
    rintro e w' ⟨rfl, hb⟩
    have hM := hA.below hb
    refine ⟨rfl, vals (setpc m (m.pc + 4#64)) c d f t (.map (some gm)), m.pc + 4#64, hM.mb, rfl, fun k k1 k2 => ?_, rfl, hM, (Wr.refl _ _).below hb⟩
    exact hb.block k (by show k < (Do.ahead _ _ _ _ _ _ _ _).heap.size; omega)
  · intro W' hW'
    exact Tab.lookAt W' gm (hW'.trans h.map) n h0 h1
  · rintro e w' ⟨rfl, v', w1, ⟨rfl, b1, b2⟩, b4, b5⟩
    rw [vals_setpc] at b4
    have w1' : Wr (own g f t) W (Do.ahead W g (n : Int) (fdOf n wd : Nat) (fs1Of n wd : Nat) (fs2Of n wd : Nat) (immOf (formOf n) wd) m.pc).drew := ⟨(hO.1.mono (fun k e => .inl e)).drew, hO.2⟩
    have w2 := w1'.then_ b2 (fun k e => .inl e)
    refine ⟨rfl, t, ?_, w2.then_ b5 (fun k e => e.imp (fun e => .inl e) (fun e => e.1)), fun k e => .inl e⟩
    refine ME.write b1 b5.1 (fun k hk hT hg => ?_) m b4 rfl rfl rfl
    rcases hT with e | ⟨e1, e2⟩
    · exact absurd e hg
    · obtain ⟨gd, cd, d1, d2, d3, d4⟩ := h.data
      refine ⟨fun e => by have := own_lt h k e; omega, ?_, fun e => by have := h.gm_lt; omega⟩
      rw [d1]
      intro e
      have e : k = gd := by simpa [Value.ownBlock] using e
      have := d3.lt
      omega
theorem log (h : ME W g m c d f t gm) {t' : Value} {x : S54} {b : Nat} {ok : Nat → Prop} (hw : Wr (fun k => k = g ∨ some k = t.ownBlock) W W') (hm : MB 74 42 W' g (atTr (vals m c d f t (.map (some gm))) t')) (hr : Kd.R k54 54 W' b ok t' (m.tr ++ [x])) : ME W' g (note m x) c d f t' gm where
  mb := by rw [← vals_tr m c d f t (.map (some gm)) t' x]; exact hm
  tr := TrAt.mk_ hr
  data := by
    obtain ⟨gd, cd, h1, h2, h3, h4⟩ := h.data
    refine ⟨gd, cd, h1, h2, h3.of (hw.1.2 gd h3.lt ?_), h4⟩
    rintro (e | e)
    · exact ty_ne (mbt h.mb) (row_typed h3) (by decide) e.symm
    · exact ty_ne (h.tr.typed gd e) (row_typed h3) (by decide) rfl
  frame := h.frame.of fun k e hl => hw.1.2 k hl (by
    rintro (e2 | e2)
    · exact h.g_f (by rw [← e2]; exact e)
    · exact ty_ne (h.tr.typed k e2) (h.fty k e) (by decide) rfl)
  fty := fun k e => by
    obtain ⟨cs, h1⟩ := h.fty k e
    refine ⟨cs, (hw.1.2 k (blk_lt h1) ?_).trans h1⟩
    rintro (e2 | e2)
    · exact h.g_f (by rw [← e2]; exact e)
    · exact ty_ne (h.tr.typed k e2) (h.fty k e) (by decide) rfl
  map := (hw.1.2 gm h.gm_lt (by
    rintro (e2 | e2)
    · exact h.gm_own (.inl e2)
    · exact h.gm_own (.inr (.inr e2)))).trans h.map
  d64 := h.d64
  fl := h.fl
  bd := h.bd
  bf := h.bf
theorem U_bd (a : BitVec 64) : 0 ≤ U a ∧ U a < 18446744073709551616 := ⟨U_nonneg a, U_lt a⟩
theorem okt_R (h : ME W g m c d f t gm) : Kd.R k54 54 W 0 (fun k => some k = t.ownBlock ∨ W.heap.size ≤ k) t m.tr := Kd.R_mono h.tr (fun k e => .inl e)
theorem okt_of {W' : World} {t t' : Value} {tr : List S54} (hr : Kd.R k54 54 W' 0 (fun k => some k = t.ownBlock ∨ W.heap.size ≤ k) t' tr) : ∀ k, some k = t'.ownBlock → some k = t.ownBlock ∨ W.heap.size ≤ k := fun k e => hr.1 k e.symm
theorem read_some (h : ME W g m c d f t gm) (hl : m.tr.length ≤ 1000000000) (a : BitVec 64) (n : Nat) (h1 : 1 ≤ n) (h8 : n ≤ 8) (v : BitVec 64) (hv : loads m a n = some v) :
    Calls Tryz.prog 96 #[.pointer (some ⟨g, 0, none⟩), .int .u64 (U a), .int .i64 (n : Int)] W fun e w' => e = .returned (.int .u64 (U v)) ∧ Lft W g gm (note m ⟨false, U a, n⟩) c d f t w' := by
  obtain ⟨gd, cd, d1, d2, d3, d4⟩ := h.data
  obtain ⟨Af, cf, f1, f2, f3⟩ := h.frame
  have hd64 := h.d64
  have key := fun (gb o cb : Nat) (l : List Int) (hrow : Row gb l W) (hby : isBytes l) (ho : o + n ≤ l.length) (hoc : n ≤ cb) (hgb : gb ≠ g) (hreg : Calls Tryz.prog 110 #[.pointer (some ⟨g, 0, none⟩), .int .u64 (U a), .int .i64 (n : Int), .bool false] W fun e w' => e = .returned (.slice (some ⟨gb, o, none⟩) n cb) ∧ w' = W) =>
    (Rd.reads 0 g (vals m c d f t (.map (some gm))) t m.tr (fun k => some k = t.ownBlock ∨ W.heap.size ≤ k) gb o cb l (U a) n W h.mb rfl (okt_R h) (fun k hk => .inr hk) (Nat.zero_le _) hl hrow hby h1 h8 ho hoc hgb hreg).mono (fun e w' (hh : _) => show e = .returned (.int .u64 (U (ld l o n))) ∧ Lft W g gm (note m ⟨false, U a, n⟩) c d f t w' from by
      obtain ⟨he, t', k1, k2, k3⟩ := hh
      exact ⟨he, t', log h k3 k1 k2, ⟨k3.1.mono (fun k e => e.elim (fun e => .inl e) (fun e => .inr (.inr e))), k3.2⟩, okt_of k2⟩)
  unfold loads at hv
  by_cases hf : fr m.frame.length (U a) n = true
  · rw [if_pos hf] at hv
    obtain rfl := Option.some.inj hv
    unfold fr at hf
    have hin := of_decide_eq_true hf
    rcases f3 with f3 | ⟨b, rfl, hb⟩
    · rw [f3] at hin
      simp only [List.length_nil] at hin
      omega
    have hfl := h.fl
    exact key b _ _ _ hb h.bf (by omega) (by omega) (ty_ne (row_typed hb) (mbt h.mb) (by decide)) (Reg.frame g _ b cf m.frame.length (U a) n false W h.mb f1 hfl f2 h1 h8 hin)
  · rw [if_neg hf] at hv
    by_cases hd : da (U a) n = true
    · rw [if_pos hd] at hv
      obtain rfl := Option.some.inj hv
      unfold da at hd
      have hin := of_decide_eq_true hd
      have hfl := h.fl
      refine key gd _ _ _ d3 h.bd (by rw [hd64]; omega) (by omega) (ty_ne (row_typed d3) (mbt h.mb) (by decide)) (Reg.data g _ Af cf m.frame.length gd cd (U a) n W h.mb d1 f1 hfl d2 (U_bd a).1 (U_bd a).2 h1 h8 (by omega) hin)
    · rw [if_neg hd] at hv
      cases hv
theorem read_none (h : ME W g m c d f t gm) (a : BitVec 64) (n : Nat) (h1 : 1 ≤ n) (h8 : n ≤ 8) (hv : loads m a n = none) :
    Calls Tryz.prog 96 #[.pointer (some ⟨g, 0, none⟩), .int .u64 (U a), .int .i64 (n : Int)] W fun e w' => e = .panicked [{ v := .iface 95 (.agg #[.int .i64 6]), recovered := false }] ∧ w' = W := by
  obtain ⟨gd, cd, d1, d2, d3, d4⟩ := h.data
  obtain ⟨Af, cf, f1, f2, f3⟩ := h.frame
  unfold loads at hv
  have hf : ¬ Reg.inFrame m.frame.length (U a) n := fun hf => by
    rw [if_pos (show fr m.frame.length (U a) n = true from decide_eq_true hf)] at hv
    cases hv
  have hd : ¬ Reg.inData (U a) n := fun hd => by
    split at hv
    · cases hv
    · rw [if_pos (show da (U a) n = true from decide_eq_true hd)] at hv
      cases hv
  exact Mem.read_no _ _ _ W (Reg.none_ g _ Af cf m.frame.length gd cd (U a) n false W h.mb d1 f1 h.fl d2 (U_bd a).1 (U_bd a).2 h1 h8 hf (.inr hd))
theorem st_bytes' {l : List Int} (h : isBytes l) (a : Nat) (v : BitVec 64) (i : Nat) : isBytes (st l a v i) := st_bytes h a v i
theorem write_some (h : ME W g m c d f t gm) (hl : m.tr.length ≤ 1000000000) (a b : BitVec 64) (n : Nat) (h1 : 1 ≤ n) (h8 : n ≤ 8) (hf : fr m.frame.length (U a) n = true) :
    Calls Tryz.prog 97 #[.pointer (some ⟨g, 0, none⟩), .int .u64 (U a), .int .i64 (n : Int), .int .u64 (U b)] W fun e w' => e = .returned (.tuple #[]) ∧ Lft W g gm (note (setf m (st m.frame (U a - (2147418112 - (m.frame.length : Int))).toNat b n)) ⟨true, U a, n⟩) c d f t w' := by
  obtain ⟨gd, cd, d1, d2, d3, d4⟩ := h.data
  obtain ⟨Af, cf, f1, f2, f3⟩ := h.frame
  unfold fr at hf
  have hin := of_decide_eq_true hf
  have hfl := h.fl
  rcases f3 with f3 | ⟨gb, rfl, hb⟩
  · rw [f3] at hin
    simp only [List.length_nil] at hin
    omega
  have hgb : gb ≠ g := ty_ne (row_typed hb) (mbt h.mb) (by decide)
  have hfo : f.ownBlock = some gb := by rw [f1]; simp [Value.ownBlock]
  refine (_root_.Go.Proofs.YtcgkgaibomcheaaGreat.Wr.writes 0 g (vals m c d f t (.map (some gm))) t m.tr (fun k => some k = t.ownBlock ∨ W.heap.size ≤ k) gb _ _ m.frame (U a) n b W h.mb rfl (okt_R h) (fun k hk => .inr hk) (Nat.zero_le _) hl hb h.bf h1 h8 (by omega) (by omega) hgb ?_ (Reg.frame g _ gb cf m.frame.length (U a) n true W h.mb f1 hfl f2 h1 h8 hin)).mono ?_
  · rintro k (e | e)
    · exact ty_ne (h.tr.typed k e) (row_typed hb) (by decide)
    · have := hb.lt; omega
  · rintro e w' ⟨rfl, t', k1, k2, k3, k4⟩
    have hlen := st_length m.frame (U a - (2147418112 - (m.frame.length : Int))).toNat b n
    refine ⟨rfl, t', ?_, ⟨k4.1.mono (fun k e => ?_), k4.2⟩, okt_of k2⟩
    · exact {
        mb := by rw [← vals_tr (setf m (st m.frame (U a - (2147418112 - (m.frame.length : Int))).toNat b n)) c d f t (.map (some gm)) t' ⟨true, U a, n⟩]; exact k1
        tr := TrAt.mk_ k2
        data := by
          refine ⟨gd, cd, d1, d2, d3.of (k4.1.2 gd d3.lt ?_), d4⟩
          rintro (e | e | e)
          · exact ty_ne (mbt h.mb) (row_typed d3) (by decide) e.symm
          · exact d4 (by rw [hfo, e])
          · exact ty_ne (h.tr.typed gd e) (row_typed d3) (by decide) rfl
        frame := ⟨_, cf, by rw [show (note (setf m (st m.frame (U a - (2147418112 - (m.frame.length : Int))).toNat b n)) ⟨true, U a, n⟩).frame.length = m.frame.length from hlen]; exact f1, by rw [show (note (setf m (st m.frame (U a - (2147418112 - (m.frame.length : Int))).toNat b n)) ⟨true, U a, n⟩).frame.length = m.frame.length from hlen]; exact f2, .inr ⟨gb, rfl, k3⟩⟩
        fty := fun k e => by
          rw [hfo] at e
          obtain rfl := Option.some.inj e
          exact row_typed k3
        map := by
          refine (k4.1.2 gm h.gm_lt ?_).trans h.map
          rintro (e | e | e)
          · exact h.gm_own (.inl e)
          · exact h.gm_own (.inr (.inl (by rw [hfo, e])))
          · exact h.gm_own (.inr (.inr e))
        d64 := h.d64
        fl := by rw [show (note (setf m (st m.frame (U a - (2147418112 - (m.frame.length : Int))).toNat b n)) ⟨true, U a, n⟩).frame.length = m.frame.length from hlen]; exact hfl
        bd := h.bd
        bf := st_bytes' h.bf _ _ _ }
    · rcases e with e | e | e
      · exact .inl e
      · exact .inr (.inl (by rw [hfo, e]))
      · exact .inr (.inr e)
theorem write_none (h : ME W g m c d f t gm) (a b : BitVec 64) (n : Nat) (h1 : 1 ≤ n) (h8 : n ≤ 8) (hf : ¬ fr m.frame.length (U a) n = true) :
    Calls Tryz.prog 97 #[.pointer (some ⟨g, 0, none⟩), .int .u64 (U a), .int .i64 (n : Int), .int .u64 (U b)] W fun e w' => e = .panicked [{ v := .iface 95 (.agg #[.int .i64 7]), recovered := false }] ∧ w' = W := by
  obtain ⟨gd, cd, d1, d2, d3, d4⟩ := h.data
  obtain ⟨Af, cf, f1, f2, f3⟩ := h.frame
  have hf : ¬ Reg.inFrame m.frame.length (U a) n := fun hh => hf (decide_eq_true hh)
  exact Mem.write_no _ _ _ _ W (Reg.none_ g _ Af cf m.frame.length gd cd (U a) n true W h.mb d1 f1 h.fl d2 (U_bd a).1 (U_bd a).2 h1 h8 hf (.inl rfl))
end
section
variable {W W' : World} {g gm : Nat} {m : Mac} {c d f t : Value}
theorem one_1 (a k : BitVec 64) : oneV 1 a k = Alu.s32 (k <<< 12) := by unfold oneV; rw [if_pos rfl]
theorem one_2 (a k : BitVec 64) : oneV 2 a k = a + k := by unfold oneV; rw [if_neg (by decide)]; rw [if_pos rfl]
theorem one_3 (a k : BitVec 64) : oneV 3 a k = Alu.s32 (a + k) := by unfold oneV; rw [if_neg (by decide)]; rw [if_neg (by decide)]; rw [if_pos rfl]
theorem one_4 (a k : BitVec 64) : oneV 4 a k = a &&& k := by unfold oneV; rw [if_neg (by decide)]; rw [if_neg (by decide)]; rw [if_neg (by decide)]; rw [if_pos rfl]
theorem one_5 (a k : BitVec 64) : oneV 5 a k = a ||| k := by unfold oneV; rw [if_neg (by decide)]; rw [if_neg (by decide)]; rw [if_neg (by decide)]; rw [if_neg (by decide)]; rw [if_pos rfl]
theorem one_6 (a k : BitVec 64) : oneV 6 a k = a ^^^ k := by unfold oneV; rw [if_neg (by decide)]; rw [if_neg (by decide)]; rw [if_neg (by decide)]; rw [if_neg (by decide)]; rw [if_neg (by decide)]; rw [if_pos rfl]
theorem one_7 (a k : BitVec 64) : oneV 7 a k = a <<< k.toNat := by unfold oneV; rw [if_neg (by decide)]; rw [if_neg (by decide)]; rw [if_neg (by decide)]; rw [if_neg (by decide)]; rw [if_neg (by decide)]; rw [if_neg (by decide)]; rw [if_pos rfl]
theorem one_8 (a k : BitVec 64) : oneV 8 a k = a >>> k.toNat := by unfold oneV; rw [if_neg (by decide)]; rw [if_neg (by decide)]; rw [if_neg (by decide)]; rw [if_neg (by decide)]; rw [if_neg (by decide)]; rw [if_neg (by decide)]; rw [if_neg (by decide)]; rw [if_pos rfl]
theorem one_9 (a k : BitVec 64) : oneV 9 a k = Alu.s32 (a <<< k.toNat) := by unfold oneV; rw [if_neg (by decide)]; rw [if_neg (by decide)]; rw [if_neg (by decide)]; rw [if_neg (by decide)]; rw [if_neg (by decide)]; rw [if_neg (by decide)]; rw [if_neg (by decide)]; rw [if_neg (by decide)]; rw [if_pos rfl]
theorem one_10 (a k : BitVec 64) : oneV 10 a k = Alu.s32 (Alu.low a >>> k.toNat) := by unfold oneV; rw [if_neg (by decide)]; rw [if_neg (by decide)]; rw [if_neg (by decide)]; rw [if_neg (by decide)]; rw [if_neg (by decide)]; rw [if_neg (by decide)]; rw [if_neg (by decide)]; rw [if_neg (by decide)]; rw [if_neg (by decide)]
theorem do_one (h : ME W g m c d f t gm) (n wd : Nat) (h0 : 1 ≤ n) (h1 : n ≤ 10) :
    Calls Tryz.prog 41 #[.pointer (some ⟨g, 0, none⟩), insOf n wd] W fun e w' => e = .returned (.int .i64 0) ∧ Lft W g gm (setx (setpc m (m.pc + 4#64)) (fdOf n wd) (oneV n (ra m n wd) (im n wd))) c d f t w' := by
  refine do_via h n wd h0 (by omega) _ _ fun W4 h4 => ?_
  have hn : n = 1 ∨ n = 2 ∨ n = 3 ∨ n = 4 ∨ n = 5 ∨ n = 6 ∨ n = 7 ∨ n = 8 ∨ n = 9 ∨ n = 10 := by omega
  rcases hn with rfl | rfl | rfl | rfl | rfl | rfl | rfl | rfl | rfl | rfl
  · refine (Alu.op_lui _ _ _ _ _ _ _ _ _ W4).mono ?_
    rintro e w' ⟨rfl, hb⟩
    exact ⟨by rw [one_1], left_below h4 hb⟩
  · refine (Alu.op_addi _ _ _ _ _ _ _ _ _ W4).mono ?_
    rintro e w' ⟨rfl, hb⟩
    exact ⟨by rw [one_2], left_below h4 hb⟩
  · refine (Alu.op_addiw _ _ _ _ _ _ _ _ _ W4).mono ?_
    rintro e w' ⟨rfl, hb⟩
    exact ⟨by rw [one_3], left_below h4 hb⟩
  · refine (Alu.op_andi _ _ _ _ _ _ _ _ _ W4).mono ?_
    rintro e w' ⟨rfl, hb⟩
    exact ⟨by rw [one_4], left_below h4 hb⟩
  · refine (Alu.op_ori _ _ _ _ _ _ _ _ _ W4).mono ?_
    rintro e w' ⟨rfl, hb⟩
    exact ⟨by rw [one_5], left_below h4 hb⟩
  · refine (Alu.op_xori _ _ _ _ _ _ _ _ _ W4).mono ?_
    rintro e w' ⟨rfl, hb⟩
    exact ⟨by rw [one_6], left_below h4 hb⟩
  · refine (Alu.op_slli _ _ _ _ _ _ _ _ _ W4).mono ?_
    rintro e w' ⟨rfl, hb⟩
    exact ⟨by rw [one_7], left_below h4 hb⟩
  · refine (Alu.op_srli _ _ _ _ _ _ _ _ _ W4).mono ?_
    rintro e w' ⟨rfl, hb⟩
    exact ⟨by rw [one_8], left_below h4 hb⟩
  · refine (Alu.op_slliw _ _ _ _ _ _ _ _ _ W4).mono ?_
    rintro e w' ⟨rfl, hb⟩
    exact ⟨by rw [one_9], left_below h4 hb⟩
  · refine (Alu.op_srliw _ _ _ _ _ _ _ _ _ W4).mono ?_
    rintro e w' ⟨rfl, hb⟩
    exact ⟨by rw [one_10], left_below h4 hb⟩
theorem do_two (h : ME W g m c d f t gm) (n wd : Nat) (h0 : 16 ≤ n) (h1 : n ≤ 28) (v : BitVec 64) (hv : RTwo.two n (ra m n wd) (rb m n wd) = some v) :
    Calls Tryz.prog 41 #[.pointer (some ⟨g, 0, none⟩), insOf n wd] W fun e w' => e = .returned (.int .i64 0) ∧ Lft W g gm (setx (setpc m (m.pc + 4#64)) (fdOf n wd) v) c d f t w' := by
  refine do_via h n wd (by omega) (by omega) _ _ fun W4 h4 => ?_
  have hn : n = 16 ∨ n = 17 ∨ n = 18 ∨ n = 19 ∨ n = 20 ∨ n = 21 ∨ n = 22 ∨ n = 23 ∨ n = 24 ∨ n = 25 ∨ n = 26 ∨ n = 27 ∨ n = 28 := by omega
  rcases hn with rfl | rfl | rfl | rfl | rfl | rfl | rfl | rfl | rfl | rfl | rfl | rfl | rfl
  · obtain rfl := Option.some.inj (show some _ = some v from hv)
    refine (Alu.op_add _ _ _ _ _ _ _ _ _ W4).mono ?_
    rintro e w' ⟨rfl, hb⟩
    exact ⟨rfl, left_below h4 hb⟩
  · obtain rfl := Option.some.inj (show some _ = some v from hv)
    refine (Alu.op_sub _ _ _ _ _ _ _ _ _ W4).mono ?_
    rintro e w' ⟨rfl, hb⟩
    exact ⟨rfl, left_below h4 hb⟩
  · obtain rfl := Option.some.inj (show some _ = some v from hv)
    refine (Alu.op_and _ _ _ _ _ _ _ _ _ W4).mono ?_
    rintro e w' ⟨rfl, hb⟩
    exact ⟨rfl, left_below h4 hb⟩
  · obtain rfl := Option.some.inj (show some _ = some v from hv)
    refine (Alu.op_or _ _ _ _ _ _ _ _ _ W4).mono ?_
    rintro e w' ⟨rfl, hb⟩
    exact ⟨rfl, left_below h4 hb⟩
  · obtain rfl := Option.some.inj (show some _ = some v from hv)
    refine (Alu.op_xor _ _ _ _ _ _ _ _ _ W4).mono ?_
    rintro e w' ⟨rfl, hb⟩
    exact ⟨rfl, left_below h4 hb⟩
  · obtain rfl := Option.some.inj (show some _ = some v from hv)
    refine (Alu.op_sll _ _ _ _ _ _ _ _ _ W4).mono ?_
    rintro e w' ⟨rfl, hb⟩
    exact ⟨rfl, left_below h4 hb⟩
  · obtain rfl := Option.some.inj (show some _ = some v from hv)
    refine (Alu.op_srl _ _ _ _ _ _ _ _ _ W4).mono ?_
    rintro e w' ⟨rfl, hb⟩
    exact ⟨rfl, left_below h4 hb⟩
  · obtain rfl := Option.some.inj (show some _ = some v from hv)
    refine (Alu.op_addw _ _ _ _ _ _ _ _ _ W4).mono ?_
    rintro e w' ⟨rfl, hb⟩
    exact ⟨rfl, left_below h4 hb⟩
  · obtain rfl := Option.some.inj (show some _ = some v from hv)
    refine (Alu.op_subw _ _ _ _ _ _ _ _ _ W4).mono ?_
    rintro e w' ⟨rfl, hb⟩
    exact ⟨rfl, left_below h4 hb⟩
  · obtain rfl := Option.some.inj (show some _ = some v from hv)
    refine (Alu.op_mulw _ _ _ _ _ _ _ _ _ W4).mono ?_
    rintro e w' ⟨rfl, hb⟩
    exact ⟨rfl, left_below h4 hb⟩
  · by_cases hz : U (Alu.low (rb m 26 wd)) = 0
    · have : RTwo.two 26 (ra m 26 wd) (rb m 26 wd) = none := by unfold RTwo.two; simp [hz]
      rw [this] at hv
      cases hv
    · have : RTwo.two 26 (ra m 26 wd) (rb m 26 wd) = some (Alu.s32 (BitVec.ofNat 64 ((Alu.low (ra m 26 wd)).toNat / (Alu.low (rb m 26 wd)).toNat))) := by unfold RTwo.two; simp [hz]
      rw [this] at hv
      obtain rfl := Option.some.inj hv
      refine (Jump.op_div_yes _ _ _ _ _ _ _ _ _ W4 hz).mono ?_
      rintro e w' ⟨rfl, hb⟩
      exact ⟨rfl, left_below h4 hb⟩
  · obtain rfl := Option.some.inj (show some _ = some v from hv)
    refine (Alu.op_sllw _ _ _ _ _ _ _ _ _ W4).mono ?_
    rintro e w' ⟨rfl, hb⟩
    exact ⟨rfl, left_below h4 hb⟩
  · obtain rfl := Option.some.inj (show some _ = some v from hv)
    refine (Alu.op_srlw _ _ _ _ _ _ _ _ _ W4).mono ?_
    rintro e w' ⟨rfl, hb⟩
    exact ⟨rfl, left_below h4 hb⟩
theorem two_none {n : Nat} {a b : BitVec 64} (h0 : 16 ≤ n) (h1 : n ≤ 28) (h : RTwo.two n a b = none) : n = 26 ∧ U (Alu.low b) = 0 := by
  have hn : n = 16 ∨ n = 17 ∨ n = 18 ∨ n = 19 ∨ n = 20 ∨ n = 21 ∨ n = 22 ∨ n = 23 ∨ n = 24 ∨ n = 25 ∨ n = 26 ∨ n = 27 ∨ n = 28 := by omega
  by_cases h26 : n = 26
  · subst h26
    refine ⟨rfl, ?_⟩
    by_cases hz : U (Alu.low b) = 0
    · exact hz
    · have : RTwo.two 26 a b = some (Alu.s32 (BitVec.ofNat 64 ((Alu.low a).toNat / (Alu.low b).toNat))) := by unfold RTwo.two; simp [hz]
      rw [this] at h
      cases h
  · rcases hn with rfl | rfl | rfl | rfl | rfl | rfl | rfl | rfl | rfl | rfl | rfl | rfl | rfl <;> first | exact absurd rfl h26 | exact absurd (show some _ = none from h) (by simp)
theorem do_div (h : ME W g m c d f t gm) (n wd : Nat) (h0 : 16 ≤ n) (h1 : n ≤ 28) (hv : RTwo.two n (ra m n wd) (rb m n wd) = none) :
    Calls Tryz.prog 41 #[.pointer (some ⟨g, 0, none⟩), insOf n wd] W fun e w' => e = .returned (.int .i64 8) ∧ Lft W g gm m c d f t w' := by
  obtain ⟨rfl, hz⟩ := two_none h0 h1 hv
  refine do_fault h 26 wd (by omega) (by omega) 8 fun W4 h4 => ?_
  exact Jump.op_div_no _ _ _ _ _ _ _ _ _ W4 hz
theorem do_ld (h : ME W g m c d f t gm) (hl : m.tr.length ≤ 1000000000) (wd : Nat) (v : BitVec 64) (hv : loads m (ra m 11 wd + im 11 wd) 8 = some v) :
    Calls Tryz.prog 41 #[.pointer (some ⟨g, 0, none⟩), insOf 11 wd] W fun e w' => e = .returned (.int .i64 0) ∧ Lft W g gm (setx (note (setpc m (m.pc + 4#64)) ⟨false, U (ra m 11 wd + im 11 wd), ((8 : Nat) : Int)⟩) (fdOf 11 wd) (v)) c d f t w' := by
  refine do_via h 11 wd (by omega) (by omega) _ _ fun W4 h4 => ?_
  have hb := below_alloc (Below.refl W4.heap.size W4) (.cells #[.int .i64 ((11 : Nat) : Int), .int .i64 ((fdOf 11 wd : Nat) : Int), .int .i64 ((fs1Of 11 wd : Nat) : Int), .int .i64 ((fs2Of 11 wd : Nat) : Int), .int .i64 (immOf (formOf 11) wd)] 42)
  have hr := read_some (h4.below hb) hl (ra m 11 wd + im 11 wd) 8 (by omega) (by omega) v hv
  refine (Mem.op_ld _ _ _ _ _ _ _ _ _ v W4 (fun w' => Lft W4 g gm (note (setpc m (m.pc + 4#64)) ⟨false, U (ra m 11 wd + im 11 wd), ((8 : Nat) : Int)⟩) c d f t w') ?_ (hr.mono ?_)).mono ?_
  · rintro w1 w2 ⟨t1, a1, a2, a3⟩ hb2
    exact ⟨t1, a1.below hb2, a2.below hb2, a3⟩
  · rintro e w' ⟨rfl, t1, a1, a2, a3⟩
    refine ⟨rfl, t1, a1, (((Wr.refl _ _).below hb).then_ a2 (fun k e => .inl e)), fun k e => (a3 k e).imp_right (fun hle => Nat.le_trans hb.size hle)⟩
  · rintro e w' ⟨rfl, hx⟩
    exact ⟨rfl, hx⟩
theorem do_ld_no (h : ME W g m c d f t gm) (wd : Nat) (hv : loads m (ra m 11 wd + im 11 wd) 8 = none) :
    Calls Tryz.prog 41 #[.pointer (some ⟨g, 0, none⟩), insOf 11 wd] W fun e w' => e = .returned (.int .i64 6) ∧ Lft W g gm m c d f t w' := by
  refine do_fault h 11 wd (by omega) (by omega) 6 fun W4 h4 => ?_
  have hb := below_alloc (Below.refl W4.heap.size W4) (.cells #[.int .i64 ((11 : Nat) : Int), .int .i64 ((fdOf 11 wd : Nat) : Int), .int .i64 ((fs1Of 11 wd : Nat) : Int), .int .i64 ((fs2Of 11 wd : Nat) : Int), .int .i64 (immOf (formOf 11) wd)] 42)
  have hr := read_none (h4.below hb) (ra m 11 wd + im 11 wd) 8 (by omega) (by omega) hv
  refine (Mem.op_ld_no _ _ _ _ _ _ _ _ _ W4 _ hr).mono ?_
  rintro e w' ⟨rfl, rfl⟩
  exact ⟨rfl, hb⟩
theorem do_lw (h : ME W g m c d f t gm) (hl : m.tr.length ≤ 1000000000) (wd : Nat) (v : BitVec 64) (hv : loads m (ra m 12 wd + im 12 wd) 4 = some v) :
    Calls Tryz.prog 41 #[.pointer (some ⟨g, 0, none⟩), insOf 12 wd] W fun e w' => e = .returned (.int .i64 0) ∧ Lft W g gm (setx (note (setpc m (m.pc + 4#64)) ⟨false, U (ra m 12 wd + im 12 wd), ((4 : Nat) : Int)⟩) (fdOf 12 wd) (Alu.s32 v)) c d f t w' := by
  refine do_via h 12 wd (by omega) (by omega) _ _ fun W4 h4 => ?_
  have hb := below_alloc (Below.refl W4.heap.size W4) (.cells #[.int .i64 ((12 : Nat) : Int), .int .i64 ((fdOf 12 wd : Nat) : Int), .int .i64 ((fs1Of 12 wd : Nat) : Int), .int .i64 ((fs2Of 12 wd : Nat) : Int), .int .i64 (immOf (formOf 12) wd)] 42)
  have hr := read_some (h4.below hb) hl (ra m 12 wd + im 12 wd) 4 (by omega) (by omega) v hv
  refine (Mem.op_lw _ _ _ _ _ _ _ _ _ v W4 (fun w' => Lft W4 g gm (note (setpc m (m.pc + 4#64)) ⟨false, U (ra m 12 wd + im 12 wd), ((4 : Nat) : Int)⟩) c d f t w') ?_ (hr.mono ?_)).mono ?_
  · rintro w1 w2 ⟨t1, a1, a2, a3⟩ hb2
    exact ⟨t1, a1.below hb2, a2.below hb2, a3⟩
  · rintro e w' ⟨rfl, t1, a1, a2, a3⟩
    refine ⟨rfl, t1, a1, (((Wr.refl _ _).below hb).then_ a2 (fun k e => .inl e)), fun k e => (a3 k e).imp_right (fun hle => Nat.le_trans hb.size hle)⟩
  · rintro e w' ⟨rfl, hx⟩
    exact ⟨rfl, hx⟩
theorem do_lw_no (h : ME W g m c d f t gm) (wd : Nat) (hv : loads m (ra m 12 wd + im 12 wd) 4 = none) :
    Calls Tryz.prog 41 #[.pointer (some ⟨g, 0, none⟩), insOf 12 wd] W fun e w' => e = .returned (.int .i64 6) ∧ Lft W g gm m c d f t w' := by
  refine do_fault h 12 wd (by omega) (by omega) 6 fun W4 h4 => ?_
  have hb := below_alloc (Below.refl W4.heap.size W4) (.cells #[.int .i64 ((12 : Nat) : Int), .int .i64 ((fdOf 12 wd : Nat) : Int), .int .i64 ((fs1Of 12 wd : Nat) : Int), .int .i64 ((fs2Of 12 wd : Nat) : Int), .int .i64 (immOf (formOf 12) wd)] 42)
  have hr := read_none (h4.below hb) (ra m 12 wd + im 12 wd) 4 (by omega) (by omega) hv
  refine (Mem.op_lw_no _ _ _ _ _ _ _ _ _ W4 _ hr).mono ?_
  rintro e w' ⟨rfl, rfl⟩
  exact ⟨rfl, hb⟩
theorem do_lwu (h : ME W g m c d f t gm) (hl : m.tr.length ≤ 1000000000) (wd : Nat) (v : BitVec 64) (hv : loads m (ra m 13 wd + im 13 wd) 4 = some v) :
    Calls Tryz.prog 41 #[.pointer (some ⟨g, 0, none⟩), insOf 13 wd] W fun e w' => e = .returned (.int .i64 0) ∧ Lft W g gm (setx (note (setpc m (m.pc + 4#64)) ⟨false, U (ra m 13 wd + im 13 wd), ((4 : Nat) : Int)⟩) (fdOf 13 wd) (v)) c d f t w' := by
  refine do_via h 13 wd (by omega) (by omega) _ _ fun W4 h4 => ?_
  have hb := below_alloc (Below.refl W4.heap.size W4) (.cells #[.int .i64 ((13 : Nat) : Int), .int .i64 ((fdOf 13 wd : Nat) : Int), .int .i64 ((fs1Of 13 wd : Nat) : Int), .int .i64 ((fs2Of 13 wd : Nat) : Int), .int .i64 (immOf (formOf 13) wd)] 42)
  have hr := read_some (h4.below hb) hl (ra m 13 wd + im 13 wd) 4 (by omega) (by omega) v hv
  refine (Mem.op_lwu _ _ _ _ _ _ _ _ _ v W4 (fun w' => Lft W4 g gm (note (setpc m (m.pc + 4#64)) ⟨false, U (ra m 13 wd + im 13 wd), ((4 : Nat) : Int)⟩) c d f t w') ?_ (hr.mono ?_)).mono ?_
  · rintro w1 w2 ⟨t1, a1, a2, a3⟩ hb2
    exact ⟨t1, a1.below hb2, a2.below hb2, a3⟩
  · rintro e w' ⟨rfl, t1, a1, a2, a3⟩
    refine ⟨rfl, t1, a1, (((Wr.refl _ _).below hb).then_ a2 (fun k e => .inl e)), fun k e => (a3 k e).imp_right (fun hle => Nat.le_trans hb.size hle)⟩
  · rintro e w' ⟨rfl, hx⟩
    exact ⟨rfl, hx⟩
theorem do_lwu_no (h : ME W g m c d f t gm) (wd : Nat) (hv : loads m (ra m 13 wd + im 13 wd) 4 = none) :
    Calls Tryz.prog 41 #[.pointer (some ⟨g, 0, none⟩), insOf 13 wd] W fun e w' => e = .returned (.int .i64 6) ∧ Lft W g gm m c d f t w' := by
  refine do_fault h 13 wd (by omega) (by omega) 6 fun W4 h4 => ?_
  have hb := below_alloc (Below.refl W4.heap.size W4) (.cells #[.int .i64 ((13 : Nat) : Int), .int .i64 ((fdOf 13 wd : Nat) : Int), .int .i64 ((fs1Of 13 wd : Nat) : Int), .int .i64 ((fs2Of 13 wd : Nat) : Int), .int .i64 (immOf (formOf 13) wd)] 42)
  have hr := read_none (h4.below hb) (ra m 13 wd + im 13 wd) 4 (by omega) (by omega) hv
  refine (Mem.op_lwu_no _ _ _ _ _ _ _ _ _ W4 _ hr).mono ?_
  rintro e w' ⟨rfl, rfl⟩
  exact ⟨rfl, hb⟩
theorem do_sd (h : ME W g m c d f t gm) (hl : m.tr.length ≤ 1000000000) (wd : Nat) (hv : fr m.frame.length (U (ra m 14 wd + im 14 wd)) 8 = true) :
    Calls Tryz.prog 41 #[.pointer (some ⟨g, 0, none⟩), insOf 14 wd] W fun e w' => e = .returned (.int .i64 0) ∧ Lft W g gm (note (setf (setpc m (m.pc + 4#64)) (st m.frame (U (ra m 14 wd + im 14 wd) - (2147418112 - (m.frame.length : Int))).toNat (rb m 14 wd) 8)) ⟨true, U (ra m 14 wd + im 14 wd), ((8 : Nat) : Int)⟩) c d f t w' := by
  refine (do_via h 14 wd (by omega) (by omega) 0#64 (note (setf (setpc m (m.pc + 4#64)) (st m.frame (U (ra m 14 wd + im 14 wd) - (2147418112 - (m.frame.length : Int))).toNat (rb m 14 wd) 8)) ⟨true, U (ra m 14 wd + im 14 wd), ((8 : Nat) : Int)⟩) fun W4 h4 => ?_).mono ?_
  · have hb := below_alloc (Below.refl W4.heap.size W4) (.cells #[.int .i64 ((14 : Nat) : Int), .int .i64 ((fdOf 14 wd : Nat) : Int), .int .i64 ((fs1Of 14 wd : Nat) : Int), .int .i64 ((fs2Of 14 wd : Nat) : Int), .int .i64 (immOf (formOf 14) wd)] 42)
    have hr := write_some (h4.below hb) hl (ra m 14 wd + im 14 wd) (rb m 14 wd) 8 (by omega) (by omega) hv
    refine (Mem.op_sd _ _ _ _ _ _ _ _ _ W4 (fun w' => Lft W4 g gm (note (setf (setpc m (m.pc + 4#64)) (st m.frame (U (ra m 14 wd + im 14 wd) - (2147418112 - (m.frame.length : Int))).toNat (rb m 14 wd) 8)) ⟨true, U (ra m 14 wd + im 14 wd), ((8 : Nat) : Int)⟩) c d f t w') (hr.mono ?_)).mono ?_
    · rintro e w' ⟨rfl, t1, a1, a2, a3⟩
      exact ⟨rfl, t1, a1, (((Wr.refl _ _).below hb).then_ a2 (fun k e => .inl e)), fun k e => (a3 k e).imp_right (fun hle => Nat.le_trans hb.size hle)⟩
    · rintro e w' ⟨rfl, hx⟩
      exact ⟨rfl, hx⟩
  · rintro e w' ⟨rfl, hx⟩
    exact ⟨rfl, hx⟩
theorem do_sd_no (h : ME W g m c d f t gm) (wd : Nat) (hv : ¬ fr m.frame.length (U (ra m 14 wd + im 14 wd)) 8 = true) :
    Calls Tryz.prog 41 #[.pointer (some ⟨g, 0, none⟩), insOf 14 wd] W fun e w' => e = .returned (.int .i64 7) ∧ Lft W g gm m c d f t w' := by
  refine do_fault h 14 wd (by omega) (by omega) 7 fun W4 h4 => ?_
  have hb := below_alloc (Below.refl W4.heap.size W4) (.cells #[.int .i64 ((14 : Nat) : Int), .int .i64 ((fdOf 14 wd : Nat) : Int), .int .i64 ((fs1Of 14 wd : Nat) : Int), .int .i64 ((fs2Of 14 wd : Nat) : Int), .int .i64 (immOf (formOf 14) wd)] 42)
  have hr := write_none (h4.below hb) (ra m 14 wd + im 14 wd) (rb m 14 wd) 8 (by omega) (by omega) hv
  refine (Mem.op_sd_no _ _ _ _ _ _ _ _ _ W4 _ hr).mono ?_
  rintro e w' ⟨rfl, rfl⟩
  exact ⟨rfl, hb⟩
theorem do_sw (h : ME W g m c d f t gm) (hl : m.tr.length ≤ 1000000000) (wd : Nat) (hv : fr m.frame.length (U (ra m 15 wd + im 15 wd)) 4 = true) :
    Calls Tryz.prog 41 #[.pointer (some ⟨g, 0, none⟩), insOf 15 wd] W fun e w' => e = .returned (.int .i64 0) ∧ Lft W g gm (note (setf (setpc m (m.pc + 4#64)) (st m.frame (U (ra m 15 wd + im 15 wd) - (2147418112 - (m.frame.length : Int))).toNat (rb m 15 wd) 4)) ⟨true, U (ra m 15 wd + im 15 wd), ((4 : Nat) : Int)⟩) c d f t w' := by
  refine (do_via h 15 wd (by omega) (by omega) 0#64 (note (setf (setpc m (m.pc + 4#64)) (st m.frame (U (ra m 15 wd + im 15 wd) - (2147418112 - (m.frame.length : Int))).toNat (rb m 15 wd) 4)) ⟨true, U (ra m 15 wd + im 15 wd), ((4 : Nat) : Int)⟩) fun W4 h4 => ?_).mono ?_
  · have hb := below_alloc (Below.refl W4.heap.size W4) (.cells #[.int .i64 ((15 : Nat) : Int), .int .i64 ((fdOf 15 wd : Nat) : Int), .int .i64 ((fs1Of 15 wd : Nat) : Int), .int .i64 ((fs2Of 15 wd : Nat) : Int), .int .i64 (immOf (formOf 15) wd)] 42)
    have hr := write_some (h4.below hb) hl (ra m 15 wd + im 15 wd) (rb m 15 wd) 4 (by omega) (by omega) hv
    refine (Mem.op_sw _ _ _ _ _ _ _ _ _ W4 (fun w' => Lft W4 g gm (note (setf (setpc m (m.pc + 4#64)) (st m.frame (U (ra m 15 wd + im 15 wd) - (2147418112 - (m.frame.length : Int))).toNat (rb m 15 wd) 4)) ⟨true, U (ra m 15 wd + im 15 wd), ((4 : Nat) : Int)⟩) c d f t w') (hr.mono ?_)).mono ?_
    · rintro e w' ⟨rfl, t1, a1, a2, a3⟩
      exact ⟨rfl, t1, a1, (((Wr.refl _ _).below hb).then_ a2 (fun k e => .inl e)), fun k e => (a3 k e).imp_right (fun hle => Nat.le_trans hb.size hle)⟩
    · rintro e w' ⟨rfl, hx⟩
      exact ⟨rfl, hx⟩
  · rintro e w' ⟨rfl, hx⟩
    exact ⟨rfl, hx⟩
theorem do_sw_no (h : ME W g m c d f t gm) (wd : Nat) (hv : ¬ fr m.frame.length (U (ra m 15 wd + im 15 wd)) 4 = true) :
    Calls Tryz.prog 41 #[.pointer (some ⟨g, 0, none⟩), insOf 15 wd] W fun e w' => e = .returned (.int .i64 7) ∧ Lft W g gm m c d f t w' := by
  refine do_fault h 15 wd (by omega) (by omega) 7 fun W4 h4 => ?_
  have hb := below_alloc (Below.refl W4.heap.size W4) (.cells #[.int .i64 ((15 : Nat) : Int), .int .i64 ((fdOf 15 wd : Nat) : Int), .int .i64 ((fs1Of 15 wd : Nat) : Int), .int .i64 ((fs2Of 15 wd : Nat) : Int), .int .i64 (immOf (formOf 15) wd)] 42)
  have hr := write_none (h4.below hb) (ra m 15 wd + im 15 wd) (rb m 15 wd) 4 (by omega) (by omega) hv
  refine (Mem.op_sw_no _ _ _ _ _ _ _ _ _ W4 _ hr).mono ?_
  rintro e w' ⟨rfl, rfl⟩
  exact ⟨rfl, hb⟩
theorem left_only (h : ME W g m c d f t gm) (ho : Only g W W') (m' : Mac) (hm : MB 74 42 W' g (vals m' c d f t (.map (some gm)))) (e1 : m'.tr = m.tr) (e2 : m'.data = m.data) (e3 : m'.frame = m.frame) : Lft W g gm m' c d f t W' :=
  ⟨t, h.write ho.1 (fun k hk hT hg => absurd hT hg) m' hm e1 e2 e3, ⟨ho.1.mono (fun k e => .inl e), ho.2⟩, fun k e => .inl e⟩
theorem pcs (p k : BitVec 64) : p + 4#64 + (k - 4#64) = p + k := by
  rw [BitVec.add_assoc, BitVec.add_comm 4#64, BitVec.sub_add_cancel]
theorem goes_left (h : ME W g (setpc m (m.pc + 4#64)) c d f t gm) (k : BitVec 64) (is : Bool) (hg : Jump.Goes g (vals (setpc m (m.pc + 4#64)) c d f t (.map (some gm))) (m.pc + 4#64) k is W W') : Lft W g gm (setpc m (RDoes2.nextPc is m.pc k)) c d f t W' := by
  obtain ⟨a1, a2⟩ := hg
  refine left_only h a2 _ ?_ rfl rfl rfl
  unfold RDoes2.nextPc
  cases is
  · exact a1
  · rw [if_pos rfl] at a1 ⊢
    rw [pcs, vals_setpc] at a1
    exact a1
theorem do_beq (h : ME W g m c d f t gm) (wd : Nat) :
    Calls Tryz.prog 41 #[.pointer (some ⟨g, 0, none⟩), insOf 29 wd] W fun e w' => e = .returned (.int .i64 0) ∧ Lft W g gm (setpc m (RDoes2.nextPc (RTwo.ask 29 (ra m 29 wd) (rb m 29 wd)) m.pc (im 29 wd))) c d f t w' := by
  refine (do_via h 29 wd (by omega) (by omega) 0#64 _ fun W4 h4 => ?_).mono (fun e w' ⟨he, hx⟩ => ⟨he, hx⟩)
  refine (Jump.op_beq g _ (m.pc + 4#64) _ _ _ _ _ _ _ _ W4 h4.mb rfl).mono ?_
  rintro e w' ⟨rfl, hg⟩
  exact ⟨rfl, goes_left h4 _ _ hg⟩
theorem do_bne (h : ME W g m c d f t gm) (wd : Nat) :
    Calls Tryz.prog 41 #[.pointer (some ⟨g, 0, none⟩), insOf 30 wd] W fun e w' => e = .returned (.int .i64 0) ∧ Lft W g gm (setpc m (RDoes2.nextPc (RTwo.ask 30 (ra m 30 wd) (rb m 30 wd)) m.pc (im 30 wd))) c d f t w' := by
  refine (do_via h 30 wd (by omega) (by omega) 0#64 _ fun W4 h4 => ?_).mono (fun e w' ⟨he, hx⟩ => ⟨he, hx⟩)
  refine (Jump.op_bne g _ (m.pc + 4#64) _ _ _ _ _ _ _ _ W4 h4.mb rfl).mono ?_
  rintro e w' ⟨rfl, hg⟩
  exact ⟨rfl, goes_left h4 _ _ hg⟩
theorem do_bltu (h : ME W g m c d f t gm) (wd : Nat) :
    Calls Tryz.prog 41 #[.pointer (some ⟨g, 0, none⟩), insOf 31 wd] W fun e w' => e = .returned (.int .i64 0) ∧ Lft W g gm (setpc m (RDoes2.nextPc (RTwo.ask 31 (ra m 31 wd) (rb m 31 wd)) m.pc (im 31 wd))) c d f t w' := by
  refine (do_via h 31 wd (by omega) (by omega) 0#64 _ fun W4 h4 => ?_).mono (fun e w' ⟨he, hx⟩ => ⟨he, hx⟩)
  refine (Jump.op_bltu g _ (m.pc + 4#64) _ _ _ _ _ _ _ _ W4 h4.mb rfl).mono ?_
  rintro e w' ⟨rfl, hg⟩
  exact ⟨rfl, goes_left h4 _ _ hg⟩
theorem do_bgeu (h : ME W g m c d f t gm) (wd : Nat) :
    Calls Tryz.prog 41 #[.pointer (some ⟨g, 0, none⟩), insOf 32 wd] W fun e w' => e = .returned (.int .i64 0) ∧ Lft W g gm (setpc m (RDoes2.nextPc (RTwo.ask 32 (ra m 32 wd) (rb m 32 wd)) m.pc (im 32 wd))) c d f t w' := by
  refine (do_via h 32 wd (by omega) (by omega) 0#64 _ fun W4 h4 => ?_).mono (fun e w' ⟨he, hx⟩ => ⟨he, hx⟩)
  refine (Jump.op_bgeu g _ (m.pc + 4#64) _ _ _ _ _ _ _ _ W4 h4.mb rfl).mono ?_
  rintro e w' ⟨rfl, hg⟩
  exact ⟨rfl, goes_left h4 _ _ hg⟩
theorem do_jal (h : ME W g m c d f t gm) (wd : Nat) :
    Calls Tryz.prog 41 #[.pointer (some ⟨g, 0, none⟩), insOf 33 wd] W fun e w' => e = .returned (.int .i64 0) ∧ Lft W g gm (setx (setpc m (m.pc + im 33 wd)) (fdOf 33 wd) (m.pc + 4#64)) c d f t w' := by
  refine do_via h 33 wd (by omega) (by omega) (m.pc + 4#64) _ fun W4 h4 => ?_
  refine (Jump.op_jal g _ (m.pc + 4#64) _ _ _ _ _ _ _ _ W4 h4.mb rfl).mono ?_
  rintro e w' ⟨rfl, hg⟩
  exact ⟨rfl, goes_left h4 _ true hg⟩
theorem do_jalr (h : ME W g m c d f t gm) (wd : Nat) :
    Calls Tryz.prog 41 #[.pointer (some ⟨g, 0, none⟩), insOf 34 wd] W fun e w' => e = .returned (.int .i64 0) ∧ Lft W g gm (setx (setpc m ((ra m 34 wd + im 34 wd) &&& ~~~1#64)) (fdOf 34 wd) (m.pc + 4#64)) c d f t w' := by
  refine do_via h 34 wd (by omega) (by omega) (m.pc + 4#64) _ fun W4 h4 => ?_
  refine (Jump.op_jalr g _ (m.pc + 4#64) _ _ _ _ _ _ _ _ W4 h4.mb rfl).mono ?_
  rintro e w' ⟨rfl, a1, a2⟩
  refine ⟨rfl, left_only h4 a2 _ ?_ rfl rfl rfl⟩
  rw [vals_setpc] at a1
  exact a1
theorem do_eq (h : ME W g m c d f t gm) (hl : m.tr.length ≤ 1000000000) (n wd : Nat) (h0 : 1 ≤ n) (h1 : n ≤ 34) :
    Calls Tryz.prog 41 #[.pointer (some ⟨g, 0, none⟩), insOf n wd] W fun e w' => e = .returned (.int .i64 (does m n wd).2) ∧ Lft W g gm (does m n wd).1 c d f t w' := by
  unfold does
  by_cases c1 : n ≤ 10
  · rw [if_pos c1]
    exact do_one h n wd h0 c1
  rw [if_neg c1]
  by_cases c2 : n ≤ 13
  · rw [if_pos c2]
    have hn : n = 11 ∨ n = 12 ∨ n = 13 := by omega
    rcases hn with rfl | rfl | rfl
    · show Calls Tryz.prog 41 _ W fun e w' => e = .returned (.int .i64 (match loads m (ra m 11 wd + im 11 wd) 8 with | none => (m, 6) | some v => _ : Mac × Int).2) ∧ _
      cases hv : loads m (ra m 11 wd + im 11 wd) 8 with
      | none => 
        have : loads m (ra m 11 wd + im 11 wd) (sz 11) = none := hv
        rw [this]
        exact do_ld_no h wd hv
      | some v => 
        have : loads m (ra m 11 wd + im 11 wd) (sz 11) = some v := hv
        rw [this]
        exact do_ld h hl wd v hv
    · cases hv : loads m (ra m 12 wd + im 12 wd) (sz 12) with
      | none => exact do_lw_no h wd hv
      | some v => exact do_lw h hl wd v hv
    · cases hv : loads m (ra m 13 wd + im 13 wd) (sz 13) with
      | none => exact do_lwu_no h wd hv
      | some v => exact do_lwu h hl wd v hv
  rw [if_neg c2]
  by_cases c3 : n ≤ 15
  · rw [if_pos c3]
    have hn : n = 14 ∨ n = 15 := by omega
    rcases hn with rfl | rfl
    · by_cases hv : fr m.frame.length (U (ra m 14 wd + im 14 wd)) (sz 14) = true
      · rw [if_pos hv]
        exact do_sd h hl wd hv
      · rw [if_neg hv]
        exact do_sd_no h wd hv
    · by_cases hv : fr m.frame.length (U (ra m 15 wd + im 15 wd)) (sz 15) = true
      · rw [if_pos hv]
        exact do_sw h hl wd hv
      · rw [if_neg hv]
        exact do_sw_no h wd hv
  rw [if_neg c3]
  by_cases c4 : n ≤ 28
  · rw [if_pos c4]
    cases hv : RTwo.two n (ra m n wd) (rb m n wd) with
    | none => exact do_div h n wd (by omega) c4 hv
    | some v => exact do_two h n wd (by omega) c4 v hv
  rw [if_neg c4]
  by_cases c5 : n ≤ 32
  · rw [if_pos c5]
    have hn : n = 29 ∨ n = 30 ∨ n = 31 ∨ n = 32 := by omega
    rcases hn with rfl | rfl | rfl | rfl
    · exact do_beq h wd
    · exact do_bne h wd
    · exact do_bltu h wd
    · exact do_bgeu h wd
  rw [if_neg c5]
  by_cases c6 : n = 33
  · subst c6
    rw [if_pos rfl]
    exact do_jal h wd
  · rw [if_neg c6]
    obtain rfl : n = 34 := by omega
    exact do_jalr h wd
end
end Go.Proofs.YtcgkgaibomcheaaGreat.EDo2
end

section
namespace Go.Proofs.YtcgkgaibomcheaaGreat.PRows
open Go.RowKit Dec YtcgkgaibomcheaaGreatW.PrintWords YtcgkgaibomcheaaGreatW.PrintLast YtcgkgaibomcheaaGreatW.PrintMore
def tyOf (form : Nat) : Nat := [0, 133, 134, 136, 136, 137, 138, 139, 140].getD form 0
def fvOf (form : Nat) : Value := if form = 3 then .agg #[.int .i64 6] else if form = 4 then .agg #[.int .i64 5] else .agg #[]
def nmOf (n : Nat) : ByteArray := [(⟨#[]⟩ : ByteArray), (⟨#[108, 117, 105]⟩ : ByteArray), (⟨#[97, 100, 100, 105]⟩ : ByteArray), (⟨#[97, 100, 100, 105, 119]⟩ : ByteArray), (⟨#[97, 110, 100, 105]⟩ : ByteArray), (⟨#[111, 114, 105]⟩ : ByteArray), (⟨#[120, 111, 114, 105]⟩ : ByteArray), (⟨#[115, 108, 108, 105]⟩ : ByteArray), (⟨#[115, 114, 108, 105]⟩ : ByteArray), (⟨#[115, 108, 108, 105, 119]⟩ : ByteArray), (⟨#[115, 114, 108, 105, 119]⟩ : ByteArray), (⟨#[108, 100]⟩ : ByteArray), (⟨#[108, 119]⟩ : ByteArray), (⟨#[108, 119, 117]⟩ : ByteArray), (⟨#[115, 100]⟩ : ByteArray), (⟨#[115, 119]⟩ : ByteArray), (⟨#[97, 100, 100]⟩ : ByteArray), (⟨#[115, 117, 98]⟩ : ByteArray), (⟨#[97, 110, 100]⟩ : ByteArray), (⟨#[111, 114]⟩ : ByteArray), (⟨#[120, 111, 114]⟩ : ByteArray), (⟨#[115, 108, 108]⟩ : ByteArray), (⟨#[115, 114, 108]⟩ : ByteArray), (⟨#[97, 100, 100, 119]⟩ : ByteArray), (⟨#[115, 117, 98, 119]⟩ : ByteArray), (⟨#[109, 117, 108, 119]⟩ : ByteArray), (⟨#[100, 105, 118, 117, 119]⟩ : ByteArray), (⟨#[115, 108, 108, 119]⟩ : ByteArray), (⟨#[115, 114, 108, 119]⟩ : ByteArray), (⟨#[98, 101, 113]⟩ : ByteArray), (⟨#[98, 110, 101]⟩ : ByteArray), (⟨#[98, 108, 116, 117]⟩ : ByteArray), (⟨#[98, 103, 101, 117]⟩ : ByteArray), (⟨#[106, 97, 108]⟩ : ByteArray), (⟨#[106, 97, 108, 114]⟩ : ByteArray)].getD n (⟨#[]⟩ : ByteArray)
def cellsOf (n : Nat) : List Value := [.int .i64 (n : Int), .string (nmOf n), .iface (tyOf (formOf n)) (fvOf (formOf n)), .int .u32 (codeOf n : Nat), .int .u32 (f3Of n : Nat), .int .u32 (f7Of n : Nat)]
def cellsAll : List Value := (List.range' 1 34).flatMap cellsOf
theorem wp_run {P : Program} {o : Oper} {a : Act} {W w1 : World} {K : Act → World → Prop} {Q : Exit → Act → World → Prop} {v : Value} (hrun : (execOp a.eval o).run P W = .ok (.value v) w1) (h : K (a.put o.dst v) w1) : Oper.wp P o a W K Q := by
  unfold Oper.wp
  rw [hrun]
  exact h
set_option maxHeartbeats 8000000 in
set_option maxRecDepth 100000 in
theorem rows (w : World) : Calls Tryz.prog 100 #[] w fun e w' => e = .returned (.slice (some ⟨w.heap.size, 0, none⟩) 34 34) ∧ w' = w.alloc (.cells cellsAll.toArray 115) := by
  go_enter Tryz.func100, Tryz.ntmps100
  go_wp2_with fail
  refine wp_run (v := .slice (some ⟨w.heap.size, 0, none⟩) 34 34) (w1 := w.alloc (.cells cellsAll.toArray 115)) ?hr ?_
  case hr => kernel_rfl
  go_at_K
  go_wp2
  go_ret
  exact ⟨rfl, rfl⟩
theorem flat_at {α : Type} (f : α → List Value) (k : Nat) : ∀ (l : List α), (∀ x ∈ l, (f x).length = k) → ∀ (i j : Nat) (x : α), l[i]? = some x → j < k → (l.flatMap f)[i * k + j]? = (f x)[j]?
  | [], _, _, _, _, h, _ => by simp at h
  | y :: l, hl, 0, j, x, h, hj => by
    obtain rfl : y = x := by simpa using h
    have hy := hl y (List.mem_cons_self ..)
    rw [List.flatMap_cons, Nat.zero_mul, Nat.zero_add, List.getElem?_append_left (by omega)]
  | y :: l, hl, i + 1, j, x, h, hj => by
    have hy := hl y (List.mem_cons_self ..)
    have ih := flat_at f k l (fun x hx => hl x (List.mem_cons_of_mem _ hx)) i j x (by simpa using h) hj
    rw [List.flatMap_cons, Nat.succ_mul, List.getElem?_append_right (by omega), hy, ← ih]
    congr 1
    omega
theorem cells_at (n j : Nat) (h0 : 1 ≤ n) (h1 : n ≤ 34) (hj : j < 6) : cellsAll.toArray[(n - 1) * 6 + j]? = (cellsOf n)[j]? := by
  rw [List.getElem?_toArray]
  refine flat_at cellsOf 6 (List.range' 1 34) (fun x _ => rfl) (n - 1) j n ?_ hj
  rw [List.getElem?_range' (by omega)]
  congr 1
  omega
end Go.Proofs.YtcgkgaibomcheaaGreat.PRows
end

section
namespace Go.Proofs.YtcgkgaibomcheaaGreat.PMeth
open Go.RowKit Dec Enc PRows YtcgkgaibomcheaaGreatW.PrintWords YtcgkgaibomcheaaGreatW.PrintLast YtcgkgaibomcheaaGreatW.PrintMore
def psOf (form : Nat) : List (Nat × Nat × Nat) := [[], [(0, 20, 12)], [(0, 12, 20)], [(0, 6, 20)], [(0, 5, 20)], [(0, 5, 7), (5, 7, 25)], [], [(1, 4, 8), (5, 6, 25), (11, 1, 7), (12, 1, 31)], [(1, 10, 21), (11, 1, 20), (12, 8, 12), (20, 1, 31)]].getD form []
def sgOf (form : Nat) : Nat := [0, 0, 12, 0, 0, 12, 0, 13, 21].getD form 0
def fnN (form : Nat) : Nat := [0, 133, 138, 143, 143, 148, 153, 158, 163].getD form 0
def fnP (form : Nat) : Nat := [0, 134, 139, 144, 144, 149, 154, 159, 164].getD form 0
def fnS (form : Nat) : Nat := [0, 136, 141, 146, 146, 151, 156, 161, 166].getD form 0
def Pc (W : World) (A : Option Addr) (ps : List (Nat × Nat × Nat)) : Prop := ps = [] ∨ ∃ b cs, A = some ⟨b, 0, none⟩ ∧ W.heap[b]? = some (.cells cs 123 (0, 0)) ∧ ∀ i, i < ps.length → cs[i * 3]? = some (.int .i64 ((ps.getD i (0, 0, 0)).1 : Nat)) ∧ cs[i * 3 + 1]? = some (.int .i64 ((ps.getD i (0, 0, 0)).2.1 : Nat)) ∧ cs[i * 3 + 2]? = some (.int .i64 ((ps.getD i (0, 0, 0)).2.2 : Nat))
theorem Pc.below {W W' : World} {A : Option Addr} {ps : List (Nat × Nat × Nat)} (h : Pc W A ps) (hb : Below W.heap.size W W') : Pc W' A ps := by
  rcases h with h | ⟨b, cs, h1, h2, h3⟩
  · exact .inl h
  · exact .inr ⟨b, cs, h1, blk_below h2 hb, h3⟩
theorem names_1 (w : World) : Calls Tryz.prog 133 #[.agg #[]] w fun e w' => e = .returned (.tuple #[.bool true, .bool false, .bool false]) ∧ Below w.heap.size w w' := by
  go_enter Tryz.func133, Tryz.ntmps133
  go_wp2
  go_ret3
  exact ⟨rfl, by repeat (first | exact Below.refl _ _ | apply below_alloc)⟩
theorem signed_1 (w : World) : Calls Tryz.prog 136 #[.agg #[]] w fun e w' => e = .returned (.int .i64 ((0 : Nat) : Int)) ∧ Below w.heap.size w w' := by
  go_enter Tryz.func136, Tryz.ntmps136
  go_wp2
  go_ret
  exact ⟨rfl, by repeat (first | exact Below.refl _ _ | apply below_alloc)⟩
theorem pieces_1 (w : World) : Calls Tryz.prog 134 #[.agg #[]] w fun e w' => ∃ A, e = .returned (.slice A 1 1) ∧ Pc w' A [(0, 20, 12)] ∧ Below w.heap.size w w' := by
  go_enter Tryz.func134, Tryz.ntmps134
  go_wp2_with (first | ((with_reducible refine gate_dst (N := 4) rfl ?_); refine event_run (v := .slice (some ⟨w.heap.size + 1, 0, none⟩) 1 1) (w1 := (w.alloc (.cells #[] 133)).alloc (.cells #[.int .i64 0, .int .i64 20, .int .i64 12] 123)) rfl (by first | kernel_rfl | (go_simp; done) | (go_simp; rfl)) ?_))
  go_ret
  refine ⟨_, rfl, .inr ⟨w.heap.size + 1, #[.int .i64 0, .int .i64 20, .int .i64 12], rfl, ?_, ?_⟩, by repeat (first | exact Below.refl _ _ | apply below_alloc)⟩
  · have h := blk_new (w.alloc (.cells #[] 133)) (.cells #[.int .i64 0, .int .i64 20, .int .i64 12] 123)
    simpa only [World.size_alloc] using h
  · intro i hi
    have hi : i < 1 := hi
    rcases i with _ | i
    · exact ⟨rfl, rfl, rfl⟩
    · omega
theorem names_2 (w : World) : Calls Tryz.prog 138 #[.agg #[]] w fun e w' => e = .returned (.tuple #[.bool true, .bool true, .bool false]) ∧ Below w.heap.size w w' := by
  go_enter Tryz.func138, Tryz.ntmps138
  go_wp2
  go_ret3
  exact ⟨rfl, by repeat (first | exact Below.refl _ _ | apply below_alloc)⟩
theorem signed_2 (w : World) : Calls Tryz.prog 141 #[.agg #[]] w fun e w' => e = .returned (.int .i64 ((12 : Nat) : Int)) ∧ Below w.heap.size w w' := by
  go_enter Tryz.func141, Tryz.ntmps141
  go_wp2
  go_ret
  exact ⟨rfl, by repeat (first | exact Below.refl _ _ | apply below_alloc)⟩
theorem pieces_2 (w : World) : Calls Tryz.prog 139 #[.agg #[]] w fun e w' => ∃ A, e = .returned (.slice A 1 1) ∧ Pc w' A [(0, 12, 20)] ∧ Below w.heap.size w w' := by
  go_enter Tryz.func139, Tryz.ntmps139
  go_wp2_with (first | ((with_reducible refine gate_dst (N := 4) rfl ?_); refine event_run (v := .slice (some ⟨w.heap.size + 1, 0, none⟩) 1 1) (w1 := (w.alloc (.cells #[] 134)).alloc (.cells #[.int .i64 0, .int .i64 12, .int .i64 20] 123)) rfl (by first | kernel_rfl | (go_simp; done) | (go_simp; rfl)) ?_))
  go_ret
  refine ⟨_, rfl, .inr ⟨w.heap.size + 1, #[.int .i64 0, .int .i64 12, .int .i64 20], rfl, ?_, ?_⟩, by repeat (first | exact Below.refl _ _ | apply below_alloc)⟩
  · have h := blk_new (w.alloc (.cells #[] 134)) (.cells #[.int .i64 0, .int .i64 12, .int .i64 20] 123)
    simpa only [World.size_alloc] using h
  · intro i hi
    have hi : i < 1 := hi
    rcases i with _ | i
    · exact ⟨rfl, rfl, rfl⟩
    · omega
theorem names_3 (w : World) : Calls Tryz.prog 143 #[.agg #[.int .i64 6]] w fun e w' => e = .returned (.tuple #[.bool true, .bool true, .bool false]) ∧ Below w.heap.size w w' := by
  go_enter Tryz.func143, Tryz.ntmps143
  go_wp2
  go_ret3
  exact ⟨rfl, by repeat (first | exact Below.refl _ _ | apply below_alloc)⟩
theorem signed_3 (w : World) : Calls Tryz.prog 146 #[.agg #[.int .i64 6]] w fun e w' => e = .returned (.int .i64 ((0 : Nat) : Int)) ∧ Below w.heap.size w w' := by
  go_enter Tryz.func146, Tryz.ntmps146
  go_wp2
  go_ret
  exact ⟨rfl, by repeat (first | exact Below.refl _ _ | apply below_alloc)⟩
theorem pieces_3 (w : World) : Calls Tryz.prog 144 #[.agg #[.int .i64 6]] w fun e w' => ∃ A, e = .returned (.slice A 1 1) ∧ Pc w' A [(0, 6, 20)] ∧ Below w.heap.size w w' := by
  go_enter Tryz.func144, Tryz.ntmps144
  go_wp2_with (first | ((with_reducible refine gate_dst (N := 6) rfl ?_); refine event_run (v := .slice (some ⟨w.heap.size + 1, 0, none⟩) 1 1) (w1 := (w.alloc (.cells #[.int .i64 6] 136)).alloc (.cells #[.int .i64 0, .int .i64 6, .int .i64 20] 123)) rfl (by first | kernel_rfl | (go_simp; done) | (go_simp; rfl)) ?_))
  go_ret
  refine ⟨_, rfl, .inr ⟨w.heap.size + 1, #[.int .i64 0, .int .i64 6, .int .i64 20], rfl, ?_, ?_⟩, by repeat (first | exact Below.refl _ _ | apply below_alloc)⟩
  · have h := blk_new (w.alloc (.cells #[.int .i64 6] 136)) (.cells #[.int .i64 0, .int .i64 6, .int .i64 20] 123)
    simpa only [World.size_alloc] using h
  · intro i hi
    have hi : i < 1 := hi
    rcases i with _ | i
    · exact ⟨rfl, rfl, rfl⟩
    · omega
theorem names_4 (w : World) : Calls Tryz.prog 143 #[.agg #[.int .i64 5]] w fun e w' => e = .returned (.tuple #[.bool true, .bool true, .bool false]) ∧ Below w.heap.size w w' := by
  go_enter Tryz.func143, Tryz.ntmps143
  go_wp2
  go_ret3
  exact ⟨rfl, by repeat (first | exact Below.refl _ _ | apply below_alloc)⟩
theorem signed_4 (w : World) : Calls Tryz.prog 146 #[.agg #[.int .i64 5]] w fun e w' => e = .returned (.int .i64 ((0 : Nat) : Int)) ∧ Below w.heap.size w w' := by
  go_enter Tryz.func146, Tryz.ntmps146
  go_wp2
  go_ret
  exact ⟨rfl, by repeat (first | exact Below.refl _ _ | apply below_alloc)⟩
theorem pieces_4 (w : World) : Calls Tryz.prog 144 #[.agg #[.int .i64 5]] w fun e w' => ∃ A, e = .returned (.slice A 1 1) ∧ Pc w' A [(0, 5, 20)] ∧ Below w.heap.size w w' := by
  go_enter Tryz.func144, Tryz.ntmps144
  go_wp2_with (first | ((with_reducible refine gate_dst (N := 6) rfl ?_); refine event_run (v := .slice (some ⟨w.heap.size + 1, 0, none⟩) 1 1) (w1 := (w.alloc (.cells #[.int .i64 5] 136)).alloc (.cells #[.int .i64 0, .int .i64 5, .int .i64 20] 123)) rfl (by first | kernel_rfl | (go_simp; done) | (go_simp; rfl)) ?_))
  go_ret
  refine ⟨_, rfl, .inr ⟨w.heap.size + 1, #[.int .i64 0, .int .i64 5, .int .i64 20], rfl, ?_, ?_⟩, by repeat (first | exact Below.refl _ _ | apply below_alloc)⟩
  · have h := blk_new (w.alloc (.cells #[.int .i64 5] 136)) (.cells #[.int .i64 0, .int .i64 5, .int .i64 20] 123)
    simpa only [World.size_alloc] using h
  · intro i hi
    have hi : i < 1 := hi
    rcases i with _ | i
    · exact ⟨rfl, rfl, rfl⟩
    · omega
theorem names_5 (w : World) : Calls Tryz.prog 148 #[.agg #[]] w fun e w' => e = .returned (.tuple #[.bool false, .bool true, .bool true]) ∧ Below w.heap.size w w' := by
  go_enter Tryz.func148, Tryz.ntmps148
  go_wp2
  go_ret3
  exact ⟨rfl, by repeat (first | exact Below.refl _ _ | apply below_alloc)⟩
theorem signed_5 (w : World) : Calls Tryz.prog 151 #[.agg #[]] w fun e w' => e = .returned (.int .i64 ((12 : Nat) : Int)) ∧ Below w.heap.size w w' := by
  go_enter Tryz.func151, Tryz.ntmps151
  go_wp2
  go_ret
  exact ⟨rfl, by repeat (first | exact Below.refl _ _ | apply below_alloc)⟩
theorem pieces_5 (w : World) : Calls Tryz.prog 149 #[.agg #[]] w fun e w' => ∃ A, e = .returned (.slice A 2 2) ∧ Pc w' A [(0, 5, 7), (5, 7, 25)] ∧ Below w.heap.size w w' := by
  go_enter Tryz.func149, Tryz.ntmps149
  go_wp2_with (first | ((with_reducible refine gate_dst (N := 5) rfl ?_); refine event_run (v := .slice (some ⟨w.heap.size + 1, 0, none⟩) 2 2) (w1 := (w.alloc (.cells #[] 137)).alloc (.cells #[.int .i64 0, .int .i64 5, .int .i64 7, .int .i64 5, .int .i64 7, .int .i64 25] 123)) rfl (by first | kernel_rfl | (go_simp; done) | (go_simp; rfl)) ?_))
  go_ret
  refine ⟨_, rfl, .inr ⟨w.heap.size + 1, #[.int .i64 0, .int .i64 5, .int .i64 7, .int .i64 5, .int .i64 7, .int .i64 25], rfl, ?_, ?_⟩, by repeat (first | exact Below.refl _ _ | apply below_alloc)⟩
  · have h := blk_new (w.alloc (.cells #[] 137)) (.cells #[.int .i64 0, .int .i64 5, .int .i64 7, .int .i64 5, .int .i64 7, .int .i64 25] 123)
    simpa only [World.size_alloc] using h
  · intro i hi
    have hi : i < 2 := hi
    rcases i with _ | _ | i
    · exact ⟨rfl, rfl, rfl⟩
    · exact ⟨rfl, rfl, rfl⟩
    · omega
theorem names_6 (w : World) : Calls Tryz.prog 153 #[.agg #[]] w fun e w' => e = .returned (.tuple #[.bool true, .bool true, .bool true]) ∧ Below w.heap.size w w' := by
  go_enter Tryz.func153, Tryz.ntmps153
  go_wp2
  go_ret3
  exact ⟨rfl, by repeat (first | exact Below.refl _ _ | apply below_alloc)⟩
theorem signed_6 (w : World) : Calls Tryz.prog 156 #[.agg #[]] w fun e w' => e = .returned (.int .i64 ((0 : Nat) : Int)) ∧ Below w.heap.size w w' := by
  go_enter Tryz.func156, Tryz.ntmps156
  go_wp2
  go_ret
  exact ⟨rfl, by repeat (first | exact Below.refl _ _ | apply below_alloc)⟩
theorem pieces_6 (w : World) : Calls Tryz.prog 154 #[.agg #[]] w fun e w' => ∃ A, e = .returned (.slice A 0 0) ∧ Pc w' A [] ∧ Below w.heap.size w w' := by
  go_enter Tryz.func154, Tryz.ntmps154
  go_wp2
  go_ret
  exact ⟨_, rfl, .inl rfl, by repeat (first | exact Below.refl _ _ | apply below_alloc)⟩
theorem names_7 (w : World) : Calls Tryz.prog 158 #[.agg #[]] w fun e w' => e = .returned (.tuple #[.bool false, .bool true, .bool true]) ∧ Below w.heap.size w w' := by
  go_enter Tryz.func158, Tryz.ntmps158
  go_wp2
  go_ret3
  exact ⟨rfl, by repeat (first | exact Below.refl _ _ | apply below_alloc)⟩
theorem signed_7 (w : World) : Calls Tryz.prog 161 #[.agg #[]] w fun e w' => e = .returned (.int .i64 ((13 : Nat) : Int)) ∧ Below w.heap.size w w' := by
  go_enter Tryz.func161, Tryz.ntmps161
  go_wp2
  go_ret
  exact ⟨rfl, by repeat (first | exact Below.refl _ _ | apply below_alloc)⟩
theorem pieces_7 (w : World) : Calls Tryz.prog 159 #[.agg #[]] w fun e w' => ∃ A, e = .returned (.slice A 4 4) ∧ Pc w' A [(1, 4, 8), (5, 6, 25), (11, 1, 7), (12, 1, 31)] ∧ Below w.heap.size w w' := by
  go_enter Tryz.func159, Tryz.ntmps159
  go_wp2_with (first | ((with_reducible refine gate_dst (N := 7) rfl ?_); refine event_run (v := .slice (some ⟨w.heap.size + 1, 0, none⟩) 4 4) (w1 := (w.alloc (.cells #[] 139)).alloc (.cells #[.int .i64 1, .int .i64 4, .int .i64 8, .int .i64 5, .int .i64 6, .int .i64 25, .int .i64 11, .int .i64 1, .int .i64 7, .int .i64 12, .int .i64 1, .int .i64 31] 123)) rfl (by first | kernel_rfl | (go_simp; done) | (go_simp; rfl)) ?_))
  go_ret
  refine ⟨_, rfl, .inr ⟨w.heap.size + 1, #[.int .i64 1, .int .i64 4, .int .i64 8, .int .i64 5, .int .i64 6, .int .i64 25, .int .i64 11, .int .i64 1, .int .i64 7, .int .i64 12, .int .i64 1, .int .i64 31], rfl, ?_, ?_⟩, by repeat (first | exact Below.refl _ _ | apply below_alloc)⟩
  · have h := blk_new (w.alloc (.cells #[] 139)) (.cells #[.int .i64 1, .int .i64 4, .int .i64 8, .int .i64 5, .int .i64 6, .int .i64 25, .int .i64 11, .int .i64 1, .int .i64 7, .int .i64 12, .int .i64 1, .int .i64 31] 123)
    simpa only [World.size_alloc] using h
  · intro i hi
    have hi : i < 4 := hi
    rcases i with _ | _ | _ | _ | i
    · exact ⟨rfl, rfl, rfl⟩
    · exact ⟨rfl, rfl, rfl⟩
    · exact ⟨rfl, rfl, rfl⟩
    · exact ⟨rfl, rfl, rfl⟩
    · omega
theorem names_8 (w : World) : Calls Tryz.prog 163 #[.agg #[]] w fun e w' => e = .returned (.tuple #[.bool true, .bool false, .bool false]) ∧ Below w.heap.size w w' := by
  go_enter Tryz.func163, Tryz.ntmps163
  go_wp2
  go_ret3
  exact ⟨rfl, by repeat (first | exact Below.refl _ _ | apply below_alloc)⟩
theorem signed_8 (w : World) : Calls Tryz.prog 166 #[.agg #[]] w fun e w' => e = .returned (.int .i64 ((21 : Nat) : Int)) ∧ Below w.heap.size w w' := by
  go_enter Tryz.func166, Tryz.ntmps166
  go_wp2
  go_ret
  exact ⟨rfl, by repeat (first | exact Below.refl _ _ | apply below_alloc)⟩
theorem pieces_8 (w : World) : Calls Tryz.prog 164 #[.agg #[]] w fun e w' => ∃ A, e = .returned (.slice A 4 4) ∧ Pc w' A [(1, 10, 21), (11, 1, 20), (12, 8, 12), (20, 1, 31)] ∧ Below w.heap.size w w' := by
  go_enter Tryz.func164, Tryz.ntmps164
  go_wp2_with (first | ((with_reducible refine gate_dst (N := 7) rfl ?_); refine event_run (v := .slice (some ⟨w.heap.size + 1, 0, none⟩) 4 4) (w1 := (w.alloc (.cells #[] 140)).alloc (.cells #[.int .i64 1, .int .i64 10, .int .i64 21, .int .i64 11, .int .i64 1, .int .i64 20, .int .i64 12, .int .i64 8, .int .i64 12, .int .i64 20, .int .i64 1, .int .i64 31] 123)) rfl (by first | kernel_rfl | (go_simp; done) | (go_simp; rfl)) ?_))
  go_ret
  refine ⟨_, rfl, .inr ⟨w.heap.size + 1, #[.int .i64 1, .int .i64 10, .int .i64 21, .int .i64 11, .int .i64 1, .int .i64 20, .int .i64 12, .int .i64 8, .int .i64 12, .int .i64 20, .int .i64 1, .int .i64 31], rfl, ?_, ?_⟩, by repeat (first | exact Below.refl _ _ | apply below_alloc)⟩
  · have h := blk_new (w.alloc (.cells #[] 140)) (.cells #[.int .i64 1, .int .i64 10, .int .i64 21, .int .i64 11, .int .i64 1, .int .i64 20, .int .i64 12, .int .i64 8, .int .i64 12, .int .i64 20, .int .i64 1, .int .i64 31] 123)
    simpa only [World.size_alloc] using h
  · intro i hi
    have hi : i < 4 := hi
    rcases i with _ | _ | _ | _ | i
    · exact ⟨rfl, rfl, rfl⟩
    · exact ⟨rfl, rfl, rfl⟩
    · exact ⟨rfl, rfl, rfl⟩
    · exact ⟨rfl, rfl, rfl⟩
    · omega
end Go.Proofs.YtcgkgaibomcheaaGreat.PMeth
end

section
namespace Go.Proofs.YtcgkgaibomcheaaGreat.PFix
open Go.RowKit Dec YtcgkgaibomcheaaGreatW.PrintWords YtcgkgaibomcheaaGreatW.PrintLast YtcgkgaibomcheaaGreatW.PrintMore
theorem ta_133_133 (W : World) : (Instr.typeAssert (.iface 133 (.agg #[])) 113 133 true).run Tryz.prog W = .ok (.tuple #[.agg #[], .bool true]) W := by kernel_rfl
theorem ta_133_140 (W : World) : (Instr.typeAssert (.iface 133 (.agg #[])) 113 140 true).run Tryz.prog W = .ok (.tuple #[.agg #[], .bool false]) W := by kernel_rfl
theorem ta_133_138 (W : World) : (Instr.typeAssert (.iface 133 (.agg #[])) 113 138 true).run Tryz.prog W = .ok (.tuple #[.agg #[], .bool false]) W := by kernel_rfl
theorem ta_133_136 (W : World) : (Instr.typeAssert (.iface 133 (.agg #[])) 113 136 true).run Tryz.prog W = .ok (.tuple #[.agg #[.int .i64 0], .bool false]) W := by kernel_rfl
theorem ta_134_133 (W : World) : (Instr.typeAssert (.iface 134 (.agg #[])) 113 133 true).run Tryz.prog W = .ok (.tuple #[.agg #[], .bool false]) W := by kernel_rfl
theorem ta_134_140 (W : World) : (Instr.typeAssert (.iface 134 (.agg #[])) 113 140 true).run Tryz.prog W = .ok (.tuple #[.agg #[], .bool false]) W := by kernel_rfl
theorem ta_134_138 (W : World) : (Instr.typeAssert (.iface 134 (.agg #[])) 113 138 true).run Tryz.prog W = .ok (.tuple #[.agg #[], .bool false]) W := by kernel_rfl
theorem ta_134_136 (W : World) : (Instr.typeAssert (.iface 134 (.agg #[])) 113 136 true).run Tryz.prog W = .ok (.tuple #[.agg #[.int .i64 0], .bool false]) W := by kernel_rfl
theorem ta_1366_133 (W : World) : (Instr.typeAssert (.iface 136 (.agg #[.int .i64 6])) 113 133 true).run Tryz.prog W = .ok (.tuple #[.agg #[], .bool false]) W := by kernel_rfl
theorem ta_1366_140 (W : World) : (Instr.typeAssert (.iface 136 (.agg #[.int .i64 6])) 113 140 true).run Tryz.prog W = .ok (.tuple #[.agg #[], .bool false]) W := by kernel_rfl
theorem ta_1366_138 (W : World) : (Instr.typeAssert (.iface 136 (.agg #[.int .i64 6])) 113 138 true).run Tryz.prog W = .ok (.tuple #[.agg #[], .bool false]) W := by kernel_rfl
theorem ta_1366_136 (W : World) : (Instr.typeAssert (.iface 136 (.agg #[.int .i64 6])) 113 136 true).run Tryz.prog W = .ok (.tuple #[.agg #[.int .i64 6], .bool true]) W := by kernel_rfl
theorem ta_1365_133 (W : World) : (Instr.typeAssert (.iface 136 (.agg #[.int .i64 5])) 113 133 true).run Tryz.prog W = .ok (.tuple #[.agg #[], .bool false]) W := by kernel_rfl
theorem ta_1365_140 (W : World) : (Instr.typeAssert (.iface 136 (.agg #[.int .i64 5])) 113 140 true).run Tryz.prog W = .ok (.tuple #[.agg #[], .bool false]) W := by kernel_rfl
theorem ta_1365_138 (W : World) : (Instr.typeAssert (.iface 136 (.agg #[.int .i64 5])) 113 138 true).run Tryz.prog W = .ok (.tuple #[.agg #[], .bool false]) W := by kernel_rfl
theorem ta_1365_136 (W : World) : (Instr.typeAssert (.iface 136 (.agg #[.int .i64 5])) 113 136 true).run Tryz.prog W = .ok (.tuple #[.agg #[.int .i64 5], .bool true]) W := by kernel_rfl
theorem ta_137_133 (W : World) : (Instr.typeAssert (.iface 137 (.agg #[])) 113 133 true).run Tryz.prog W = .ok (.tuple #[.agg #[], .bool false]) W := by kernel_rfl
theorem ta_137_140 (W : World) : (Instr.typeAssert (.iface 137 (.agg #[])) 113 140 true).run Tryz.prog W = .ok (.tuple #[.agg #[], .bool false]) W := by kernel_rfl
theorem ta_137_138 (W : World) : (Instr.typeAssert (.iface 137 (.agg #[])) 113 138 true).run Tryz.prog W = .ok (.tuple #[.agg #[], .bool false]) W := by kernel_rfl
theorem ta_137_136 (W : World) : (Instr.typeAssert (.iface 137 (.agg #[])) 113 136 true).run Tryz.prog W = .ok (.tuple #[.agg #[.int .i64 0], .bool false]) W := by kernel_rfl
theorem ta_138_133 (W : World) : (Instr.typeAssert (.iface 138 (.agg #[])) 113 133 true).run Tryz.prog W = .ok (.tuple #[.agg #[], .bool false]) W := by kernel_rfl
theorem ta_138_140 (W : World) : (Instr.typeAssert (.iface 138 (.agg #[])) 113 140 true).run Tryz.prog W = .ok (.tuple #[.agg #[], .bool false]) W := by kernel_rfl
theorem ta_138_138 (W : World) : (Instr.typeAssert (.iface 138 (.agg #[])) 113 138 true).run Tryz.prog W = .ok (.tuple #[.agg #[], .bool true]) W := by kernel_rfl
theorem ta_138_136 (W : World) : (Instr.typeAssert (.iface 138 (.agg #[])) 113 136 true).run Tryz.prog W = .ok (.tuple #[.agg #[.int .i64 0], .bool false]) W := by kernel_rfl
theorem ta_139_133 (W : World) : (Instr.typeAssert (.iface 139 (.agg #[])) 113 133 true).run Tryz.prog W = .ok (.tuple #[.agg #[], .bool false]) W := by kernel_rfl
theorem ta_139_140 (W : World) : (Instr.typeAssert (.iface 139 (.agg #[])) 113 140 true).run Tryz.prog W = .ok (.tuple #[.agg #[], .bool false]) W := by kernel_rfl
theorem ta_139_138 (W : World) : (Instr.typeAssert (.iface 139 (.agg #[])) 113 138 true).run Tryz.prog W = .ok (.tuple #[.agg #[], .bool false]) W := by kernel_rfl
theorem ta_139_136 (W : World) : (Instr.typeAssert (.iface 139 (.agg #[])) 113 136 true).run Tryz.prog W = .ok (.tuple #[.agg #[.int .i64 0], .bool false]) W := by kernel_rfl
theorem ta_140_133 (W : World) : (Instr.typeAssert (.iface 140 (.agg #[])) 113 133 true).run Tryz.prog W = .ok (.tuple #[.agg #[], .bool false]) W := by kernel_rfl
theorem ta_140_140 (W : World) : (Instr.typeAssert (.iface 140 (.agg #[])) 113 140 true).run Tryz.prog W = .ok (.tuple #[.agg #[], .bool true]) W := by kernel_rfl
theorem ta_140_138 (W : World) : (Instr.typeAssert (.iface 140 (.agg #[])) 113 138 true).run Tryz.prog W = .ok (.tuple #[.agg #[], .bool false]) W := by kernel_rfl
theorem ta_140_136 (W : World) : (Instr.typeAssert (.iface 140 (.agg #[])) 113 136 true).run Tryz.prog W = .ok (.tuple #[.agg #[.int .i64 0], .bool false]) W := by kernel_rfl
set_option maxRecDepth 20000 in
set_option maxHeartbeats 1000000 in
theorem fixed_133 (op : Int) (nm : ByteArray) (c f3 f7 : Int) (hc0 : 0 ≤ c) (hc : c < 128) (h30 : 0 ≤ f3) (h3 : f3 < 8) (h70 : 0 ≤ f7) (h7 : f7 < 128) (w : World) : Calls Tryz.prog 101 #[.agg #[.int .i64 op, .string nm, .iface 133 (.agg #[]), .int .u32 c, .int .u32 f3, .int .u32 f7]] w fun e w' => e = .returned (.tuple #[.int .u32 c, .int .u32 127]) ∧ Below w.heap.size w w' := by
  have q133 := ta_133_133
  have q140 := ta_133_140
  have q138 := ta_133_138
  have q136 := ta_133_136
  have m1 : Go.bits .or .u32 127 28672 = 28799 := by decide +kernel
  have m2 : Go.bits .or .u32 127 4227858432 = 4227858559 := by decide +kernel
  have m3 : Go.bits .or .u32 4227858559 28672 = 4227887231 := by decide +kernel
  have m4 : Go.bits .or .u32 127 4261412864 = 4261412991 := by decide +kernel
  have m5 : Go.bits .or .u32 4261412991 28672 = 4261441663 := by decide +kernel
  go_enter Tryz.func101, Tryz.ntmps101
  go_wp2
  go_ret2
  exact ⟨rfl, by repeat (first | exact Below.refl _ _ | apply below_alloc)⟩
set_option maxRecDepth 20000 in
set_option maxHeartbeats 1000000 in
theorem fixed_134 (op : Int) (nm : ByteArray) (c f3 f7 : Int) (hc0 : 0 ≤ c) (hc : c < 128) (h30 : 0 ≤ f3) (h3 : f3 < 8) (h70 : 0 ≤ f7) (h7 : f7 < 128) (w : World) : Calls Tryz.prog 101 #[.agg #[.int .i64 op, .string nm, .iface 134 (.agg #[]), .int .u32 c, .int .u32 f3, .int .u32 f7]] w fun e w' => e = .returned (.tuple #[.int .u32 (Go.bits .or .u32 (Go.bits .or .u32 c (f3 * 4096)) (f7 * 33554432)), .int .u32 28799]) ∧ Below w.heap.size w w' := by
  have q133 := ta_134_133
  have q140 := ta_134_140
  have q138 := ta_134_138
  have q136 := ta_134_136
  have m1 : Go.bits .or .u32 127 28672 = 28799 := by decide +kernel
  have m2 : Go.bits .or .u32 127 4227858432 = 4227858559 := by decide +kernel
  have m3 : Go.bits .or .u32 4227858559 28672 = 4227887231 := by decide +kernel
  have m4 : Go.bits .or .u32 127 4261412864 = 4261412991 := by decide +kernel
  have m5 : Go.bits .or .u32 4261412991 28672 = 4261441663 := by decide +kernel
  go_enter Tryz.func101, Tryz.ntmps101
  go_wp2
  go_ret2
  exact ⟨rfl, by repeat (first | exact Below.refl _ _ | apply below_alloc)⟩
set_option maxRecDepth 20000 in
set_option maxHeartbeats 1000000 in
theorem fixed_1366 (op : Int) (nm : ByteArray) (c f3 f7 : Int) (hc0 : 0 ≤ c) (hc : c < 128) (h30 : 0 ≤ f3) (h3 : f3 < 8) (h70 : 0 ≤ f7) (h7 : f7 < 128) (w : World) : Calls Tryz.prog 101 #[.agg #[.int .i64 op, .string nm, .iface 136 (.agg #[.int .i64 6]), .int .u32 c, .int .u32 f3, .int .u32 f7]] w fun e w' => e = .returned (.tuple #[.int .u32 (Go.bits .or .u32 (Go.bits .or .u32 c (f3 * 4096)) (f7 * 33554432)), .int .u32 4227887231]) ∧ Below w.heap.size w w' := by
  have q133 := ta_1366_133
  have q140 := ta_1366_140
  have q138 := ta_1366_138
  have q136 := ta_1366_136
  have m1 : Go.bits .or .u32 127 28672 = 28799 := by decide +kernel
  have m2 : Go.bits .or .u32 127 4227858432 = 4227858559 := by decide +kernel
  have m3 : Go.bits .or .u32 4227858559 28672 = 4227887231 := by decide +kernel
  have m4 : Go.bits .or .u32 127 4261412864 = 4261412991 := by decide +kernel
  have m5 : Go.bits .or .u32 4261412991 28672 = 4261441663 := by decide +kernel
  go_enter Tryz.func101, Tryz.ntmps101
  go_wp2
  go_ret2
  exact ⟨rfl, by repeat (first | exact Below.refl _ _ | apply below_alloc)⟩
set_option maxRecDepth 20000 in
set_option maxHeartbeats 1000000 in
theorem fixed_1365 (op : Int) (nm : ByteArray) (c f3 f7 : Int) (hc0 : 0 ≤ c) (hc : c < 128) (h30 : 0 ≤ f3) (h3 : f3 < 8) (h70 : 0 ≤ f7) (h7 : f7 < 128) (w : World) : Calls Tryz.prog 101 #[.agg #[.int .i64 op, .string nm, .iface 136 (.agg #[.int .i64 5]), .int .u32 c, .int .u32 f3, .int .u32 f7]] w fun e w' => e = .returned (.tuple #[.int .u32 (Go.bits .or .u32 (Go.bits .or .u32 c (f3 * 4096)) (f7 * 33554432)), .int .u32 4261441663]) ∧ Below w.heap.size w w' := by
  have q133 := ta_1365_133
  have q140 := ta_1365_140
  have q138 := ta_1365_138
  have q136 := ta_1365_136
  have m1 : Go.bits .or .u32 127 28672 = 28799 := by decide +kernel
  have m2 : Go.bits .or .u32 127 4227858432 = 4227858559 := by decide +kernel
  have m3 : Go.bits .or .u32 4227858559 28672 = 4227887231 := by decide +kernel
  have m4 : Go.bits .or .u32 127 4261412864 = 4261412991 := by decide +kernel
  have m5 : Go.bits .or .u32 4261412991 28672 = 4261441663 := by decide +kernel
  go_enter Tryz.func101, Tryz.ntmps101
  go_wp2
  go_ret2
  exact ⟨rfl, by repeat (first | exact Below.refl _ _ | apply below_alloc)⟩
set_option maxRecDepth 20000 in
set_option maxHeartbeats 1000000 in
theorem fixed_137 (op : Int) (nm : ByteArray) (c f3 f7 : Int) (hc0 : 0 ≤ c) (hc : c < 128) (h30 : 0 ≤ f3) (h3 : f3 < 8) (h70 : 0 ≤ f7) (h7 : f7 < 128) (w : World) : Calls Tryz.prog 101 #[.agg #[.int .i64 op, .string nm, .iface 137 (.agg #[]), .int .u32 c, .int .u32 f3, .int .u32 f7]] w fun e w' => e = .returned (.tuple #[.int .u32 (Go.bits .or .u32 (Go.bits .or .u32 c (f3 * 4096)) (f7 * 33554432)), .int .u32 28799]) ∧ Below w.heap.size w w' := by
  have q133 := ta_137_133
  have q140 := ta_137_140
  have q138 := ta_137_138
  have q136 := ta_137_136
  have m1 : Go.bits .or .u32 127 28672 = 28799 := by decide +kernel
  have m2 : Go.bits .or .u32 127 4227858432 = 4227858559 := by decide +kernel
  have m3 : Go.bits .or .u32 4227858559 28672 = 4227887231 := by decide +kernel
  have m4 : Go.bits .or .u32 127 4261412864 = 4261412991 := by decide +kernel
  have m5 : Go.bits .or .u32 4261412991 28672 = 4261441663 := by decide +kernel
  go_enter Tryz.func101, Tryz.ntmps101
  go_wp2
  go_ret2
  exact ⟨rfl, by repeat (first | exact Below.refl _ _ | apply below_alloc)⟩
set_option maxRecDepth 20000 in
set_option maxHeartbeats 1000000 in
theorem fixed_138 (op : Int) (nm : ByteArray) (c f3 f7 : Int) (hc0 : 0 ≤ c) (hc : c < 128) (h30 : 0 ≤ f3) (h3 : f3 < 8) (h70 : 0 ≤ f7) (h7 : f7 < 128) (w : World) : Calls Tryz.prog 101 #[.agg #[.int .i64 op, .string nm, .iface 138 (.agg #[]), .int .u32 c, .int .u32 f3, .int .u32 f7]] w fun e w' => e = .returned (.tuple #[.int .u32 (Go.bits .or .u32 (Go.bits .or .u32 c (f3 * 4096)) (f7 * 33554432)), .int .u32 4261441663]) ∧ Below w.heap.size w w' := by
  have q133 := ta_138_133
  have q140 := ta_138_140
  have q138 := ta_138_138
  have q136 := ta_138_136
  have m1 : Go.bits .or .u32 127 28672 = 28799 := by decide +kernel
  have m2 : Go.bits .or .u32 127 4227858432 = 4227858559 := by decide +kernel
  have m3 : Go.bits .or .u32 4227858559 28672 = 4227887231 := by decide +kernel
  have m4 : Go.bits .or .u32 127 4261412864 = 4261412991 := by decide +kernel
  have m5 : Go.bits .or .u32 4261412991 28672 = 4261441663 := by decide +kernel
  go_enter Tryz.func101, Tryz.ntmps101
  go_wp2
  go_ret2
  exact ⟨rfl, by repeat (first | exact Below.refl _ _ | apply below_alloc)⟩
set_option maxRecDepth 20000 in
set_option maxHeartbeats 1000000 in
theorem fixed_139 (op : Int) (nm : ByteArray) (c f3 f7 : Int) (hc0 : 0 ≤ c) (hc : c < 128) (h30 : 0 ≤ f3) (h3 : f3 < 8) (h70 : 0 ≤ f7) (h7 : f7 < 128) (w : World) : Calls Tryz.prog 101 #[.agg #[.int .i64 op, .string nm, .iface 139 (.agg #[]), .int .u32 c, .int .u32 f3, .int .u32 f7]] w fun e w' => e = .returned (.tuple #[.int .u32 (Go.bits .or .u32 (Go.bits .or .u32 c (f3 * 4096)) (f7 * 33554432)), .int .u32 28799]) ∧ Below w.heap.size w w' := by
  have q133 := ta_139_133
  have q140 := ta_139_140
  have q138 := ta_139_138
  have q136 := ta_139_136
  have m1 : Go.bits .or .u32 127 28672 = 28799 := by decide +kernel
  have m2 : Go.bits .or .u32 127 4227858432 = 4227858559 := by decide +kernel
  have m3 : Go.bits .or .u32 4227858559 28672 = 4227887231 := by decide +kernel
  have m4 : Go.bits .or .u32 127 4261412864 = 4261412991 := by decide +kernel
  have m5 : Go.bits .or .u32 4261412991 28672 = 4261441663 := by decide +kernel
  go_enter Tryz.func101, Tryz.ntmps101
  go_wp2
  go_ret2
  exact ⟨rfl, by repeat (first | exact Below.refl _ _ | apply below_alloc)⟩
set_option maxRecDepth 20000 in
set_option maxHeartbeats 1000000 in
theorem fixed_140 (op : Int) (nm : ByteArray) (c f3 f7 : Int) (hc0 : 0 ≤ c) (hc : c < 128) (h30 : 0 ≤ f3) (h3 : f3 < 8) (h70 : 0 ≤ f7) (h7 : f7 < 128) (w : World) : Calls Tryz.prog 101 #[.agg #[.int .i64 op, .string nm, .iface 140 (.agg #[]), .int .u32 c, .int .u32 f3, .int .u32 f7]] w fun e w' => e = .returned (.tuple #[.int .u32 c, .int .u32 127]) ∧ Below w.heap.size w w' := by
  have q133 := ta_140_133
  have q140 := ta_140_140
  have q138 := ta_140_138
  have q136 := ta_140_136
  have m1 : Go.bits .or .u32 127 28672 = 28799 := by decide +kernel
  have m2 : Go.bits .or .u32 127 4227858432 = 4227858559 := by decide +kernel
  have m3 : Go.bits .or .u32 4227858559 28672 = 4227887231 := by decide +kernel
  have m4 : Go.bits .or .u32 127 4261412864 = 4261412991 := by decide +kernel
  have m5 : Go.bits .or .u32 4261412991 28672 = 4261441663 := by decide +kernel
  go_enter Tryz.func101, Tryz.ntmps101
  go_wp2
  go_ret2
  exact ⟨rfl, by repeat (first | exact Below.refl _ _ | apply below_alloc)⟩
end Go.Proofs.YtcgkgaibomcheaaGreat.PFix
end
