/- Joined out of this claim's texts: Wri, D1, Do, Tab. Conditions: those of each theorem. -/
import Derived.Test.YtcgkgaibomcheaaGreatZC01
import Derived.Test.YtcgkgaibomcheaaGreatZC09
import Derived.Test.YtcgkgaibomcheaaGreatZC03
import Derived.Defers
import Derived.Recover
import Derived.StillTailTactics
import Derived.MapKept
import Derived.Maps.OwnOps
set_option linter.unusedVariables false
set_option linter.unusedSimpArgs false
section
namespace Go.Proofs.YtcgkgaibomcheaaGreat.Wr
open Go.RowKit Bits Mb Reg Rd StoreExact PRvemuRuns YtcgkgaibomcheaaGreatW.PrintWords YtcgkgaibomcheaaGreatW.PrintLast YtcgkgaibomcheaaGreatW.PrintMore
theorem putC_at (cs : Array Value) (o : Nat) (v : BitVec 64) : ∀ (i j : Nat), j < cs.size → (putC cs o v i)[j]? = if o ≤ j ∧ j < o + i then some (.int .u8 (Bits.byteOf v (j - o))) else cs[j]?
  | 0, j, _ => by rw [if_neg (by omega)]; rfl
  | i + 1, j, hj => by
    unfold putC
    rw [Array.getElem?_setIfInBounds]
    by_cases e : o + i = j
    · subst e
      have hs := putC_size cs o v i
      rw [if_pos rfl, if_pos (by omega), if_pos (by omega)]
      have : o + i - o = i := by omega
      rw [this]
    · rw [if_neg e, putC_at cs o v i j hj]
      by_cases h : o ≤ j ∧ j < o + i
      · rw [if_pos h, if_pos (by omega)]
      · rw [if_neg h, if_neg (by omega)]
theorem Row.put {g : Nat} {l : List Int} {W : World} (h : Rd.Row g l W) (a : Nat) (v : BitVec 64) (m : Nat) (ha : a + m ≤ l.length) : Rd.Row g (st l a v m) (StoreExact.put W g (a + 0) v m) := by
  obtain ⟨cs, h1, h2, h3⟩ := h
  have hl := st_length l a v m
  refine ⟨putC cs (a + 0) v m, put_block h1 m, by rw [hl, putC_size]; exact h2, fun j hj => ?_⟩
  rw [hl] at hj
  rw [putC_at _ _ _ _ _ (by omega), st_at l a v m j hj, Nat.add_zero]
  by_cases hc : a ≤ j ∧ j < a + m
  · rw [if_pos hc, if_pos hc]
  · rw [if_neg hc, if_neg hc]; exact h3 j hj
set_option maxRecDepth 20000 in
set_option maxHeartbeats 1000000 in
theorem writes (b : Nat) (g : Nat) (v : Nat → Value) (vt : Value) (tr : List S54) (okt : Nat → Prop) (gb o cb : Nat) (l : List Int) (a : Int) (n : Nat) (x : BitVec 64) (w : World) (h : MB 74 42 w g v) (ht : v 40 = vt) (hT : Kd.R k54 54 w b okt vt tr) (hfr : ∀ k, w.heap.size ≤ k → okt k)
    (hb : b ≤ w.heap.size) (hlen : tr.length ≤ 1000000000) (hrow : Row gb l w) (hby : isBytes l) (hn1 : 1 ≤ n) (hn8 : n ≤ 8) (ho : o + n ≤ l.length) (hoc : n ≤ cb) (hgb : gb ≠ g) (hne : ∀ k, okt k → k ≠ gb)
    (hreg : Calls Tryz.prog 110 #[.pointer (some ⟨g, 0, none⟩), .int .u64 a, .int .i64 n, .bool true] w fun e w' => e = .returned (.slice (some ⟨gb, o, none⟩) n cb) ∧ w' = w) :
    Calls Tryz.prog 97 #[.pointer (some ⟨g, 0, none⟩), .int .u64 a, .int .i64 n, .int .u64 (U x)] w fun e w' => e = .returned (.tuple #[]) ∧ ∃ vt', MB 74 42 w' g (atTr v vt') ∧ Kd.R k54 54 w' b okt vt' (tr ++ [⟨true, a, n⟩]) ∧ Row gb (st l o x n) w' ∧ Wr (fun k => k = g ∨ k = gb ∨ some k = vt.ownBlock) w w' := by
  have qT : ∀ (w : World) (a : Option Addr) (n c n' c' : Nat), (binOp .eql 22 (.slice a n c) (.slice none n' c')).run Tryz.prog w = .ok (.bool a.isNone) w := fun w a n c n' c' => Lib.run_eql_slice_nil w _ _ a n c n' c' Tryz.underlying22
  have HREG := Aside0.mk hreg
  have HT := Aside0.mk hT
  have HM := Aside0.mk h
  have HR := Aside0.mk hrow
  have HFR := Aside0.mk hfr
  have LC := Aside0.mk (show ∀ W, Row gb l W → Calls Tryz.prog 111 #[.slice (some ⟨gb, o, none⟩) n cb, .int .i64 0, .int .i64 n, .int .u64 (U x)] W fun e w' => e = .returned (.int .i64 0) ∧ Row gb (st l o x n) w' ∧ Wr (fun k => k = gb) W w' from fun W hW => by
    have hl : ((l.drop o).take n).length = n := by rw [List.length_take, List.length_drop]; omega
    have ht := word_there.calls (some ⟨gb, o, none⟩) cb ((l.drop o).take n) 0 n true W (by rw [hl]; exact hW.reads o n ho (by omega)) (by rw [hl]; exact hoc) (F1.there_yes _ (by omega) 0 n ⟨by omega, by omega, by omega, by omega⟩)
    rw [hl] at ht
    obtain ⟨cs, q1, q2, q3⟩ := id hW
    refine (StoreExact.calls gb o n cb 0 n x W 5 cs q1 (by omega) (by omega) hn1 hn8 (by omega) ht).mono ?_
    rintro e w' ⟨rfl, m, rfl⟩
    refine ⟨rfl, Row.put (hW.of (W' := W.drewN m) rfl) o x n ho, ?_⟩
    obtain ⟨r1, r2, r3⟩ := StoreExact.put_rest (W.drewN m) gb (o + 0) x n
    exact ⟨⟨by rw [StoreExact.put_size]; exact Nat.le_refl _, fun k _ hk => StoreExact.put_other _ _ _ _ k hk _⟩, r1, r2, r3⟩)
  have c40 := (h.cell 40 (by omega)).trans (congrArg some ht)
  clear hreg hT h hrow ht
  go_enter Tryz.func97, Tryz.ntmps97
  go_wp2_with fail
  refine HREG.out.mono ?_
  rintro e w1 ⟨rfl, rfl⟩
  clear HREG
  go_wp2_with (first | ((with_reducible refine gate_dst (N := 25) rfl ?_); refine Kd.R_lit k54 (w0 := w1) w1.heap.size 54 ?hg (N := 25) ?hd (xs := [(⟨true, a, n⟩ : S54)]) (inner := [.bool true, .int .u64 a, .int .i64 n]) (ok := fun _ => True) (okp := fun _ => True) ?hr ?hp (fun _ hk => hk) trivial (Below.refl _ _) (Nat.le_refl _) (by simp) ?_; (case hd => rfl); (case hg => rfl); (case hr => first | (go_simp; done) | (go_simp; rfl)); (case hp => exact ev_reps _ _ _ _); intro v26 w26 ho26 hb26 hgx_ hnx_; clear hgx_ hnx_) | ((with_reducible refine gate_builtin (b := .append) (xs := #[.tmp 21, .tmp 25]) rfl ?_); at_builtin; obtain ⟨A26, c26, rfl, hc26, hC26⟩ := Kd.R_reads ho26; refine Kd.R_append_rows k54 (Rr := k54.K w26) (w0 := w1) b rfl (.tmp 21) (.tmp 25) 29 54 (.agg #[.bool false, .int .u64 0, .int .i64 0]) 24 rfl Tryz.underlying29 info54 rfl (by decide) (by omega) vt tr [(⟨true, a, n⟩ : S54)] _ _ _ okt (fun _ => False) rfl rfl ?aO ?aR ?aK (fun _ h => h.elim) ?aF ?aB ?aS ?aL ?_; (case aO => exact Kd.R_below HT.out hb26); (case aR => exact hC26); (case aK => exact fun x cs h => by rw [k54_open h]; exact k54_mkM _ _ _ x); (case aF => exact fun k hk => HFR.out k (Nat.le_trans hb26.size hk)); (case aB => exact hb26.mono hb); (case aS => exact Nat.le_trans hb hb26.size); (case aL => simp only [List.length_cons, List.length_nil]; omega); intro v27 w27 ho27 hb27 hg27 hat27; obtain ⟨A27, c27, rfl, hc27, hC27⟩ := Kd.R_reads ho27; have M27 : MB 74 42 w27 g v := (by (obtain ⟨cs, q1, q2⟩ := HM.out.below hb26; exact ⟨cs, blk_grown q1 hg27 (Kd.R_ne (Kd.R_below HT.out hb26) q1 (by decide)), q2⟩)); have R27 : Row gb l w27 := (by (obtain ⟨cs, q1, q2⟩ := HR.out.below hb26; exact ⟨cs, blk_grown q1 hg27 (Kd.R_ne (Kd.R_below HT.out hb26) q1 (by decide)), q2⟩)); have x40 := M27.cell 40 (by omega); have f40 := M27.frozen 40; have HM27 := Aside0.mk M27; have HR27 := Aside0.mk R27; have HO27 := Aside0.mk ho27; have HB27 := Aside0.mk hb27; have HG27 := Aside0.mk hg27; have HB26 := Aside0.mk hb26; clear M27 R27 ho27 hb27 hg27 hat27 hc27 hC27 hC26 hc26 ho26 hb26))
  have el : (tr ++ [(⟨true, a, n⟩ : S54)]).length = tr.length + 1 := by rw [List.length_append]; rfl
  rw [el] at HO27
  have HM28 := Aside0.mk (HM27.out.put 40 (.slice A27 (tr.length + 1) c27) (atTr v (.slice A27 (tr.length + 1) c27)) rfl (fun i _ hi => if_neg hi))
  have HR28 := Aside0.mk (HR27.out.of (Below.heap_setCell w27 ⟨g, 40, none⟩ (.slice A27 (tr.length + 1) c27) gb hgb))
  have HO28 := Aside0.mk (show Kd.R k54 54 (w27.setCell ⟨g, 40, none⟩ (.slice A27 (tr.length + 1) c27)) b okt (.slice A27 (tr.length + 1) c27) (tr ++ [⟨true, a, n⟩]) from by
    obtain ⟨cs, q1, _⟩ := HM27.out
    exact Kd.R_set HO27.out q1 (by decide) 40 _)
  have HW28 := Aside0.mk (show Wr (fun k => k = g ∨ k = gb ∨ some k = vt.ownBlock) w1 (w27.setCell ⟨g, 40, none⟩ (.slice A27 (tr.length + 1) c27)) from by
    refine Wr.set (p := ⟨g, 40, none⟩) ?_ (.inl (.inl rfl)) _
    refine ⟨Kept.of_grown HG27.out (Kept.of_below HB26.out _) (fun k hk => .inl (.inr (.inr hk.symm))), HB27.out.os, HB27.out.tape, HB27.out.output⟩)
  clear HM27 HR27 HO27 HG27 HB27 HB26 x40 f40 el HR HM HT HFR c40 hfr
  refine (LC.out _ HR28.out).mono ?_
  rintro e w29 ⟨rfl, hr29, hw29⟩
  have hgm : ∀ {W : World} {v : Nat → Value}, MB 74 42 W g v → ¬ (g = gb) := fun _ h => hgb h.symm
  have HM29 := Aside0.mk (HM28.out.of (hw29.1.2 g HM28.out.lt (fun h => hgb h.symm)))
  have HO29 := Aside0.mk (Kd.R_step HO28.out (w1 := w29) (fun k hk hlt => hw29.1.2 k hlt (fun h => hne k hk h)))
  have HR29 := Aside0.mk hr29
  have HW29 := Aside0.mk (HW28.out.then_ hw29 (fun k hk => .inl (.inr (.inl hk))))
  clear HM28 HO28 HW28 HR28 LC hr29 hw29 hgm
  go_wp2
  go_end0
  exact ⟨rfl, _, HM29.out, HO29.out, HR29.out, HW29.out⟩
end Go.Proofs.YtcgkgaibomcheaaGreat.Wr
end

section
namespace Go.Proofs.YtcgkgaibomcheaaGreat.D1
open Go.RowKit YtcgkgaibomcheaaGreatW.PrintWords YtcgkgaibomcheaaGreatW.PrintLast YtcgkgaibomcheaaGreatW.PrintMore
theorem idle (pa pm pe : Addr) (w : World) :
    CallsD Tryz.prog 85 #[.pointer (some pa), .pointer (some pm), .pointer (some pe)] .returning w fun e u' w' => e = .returned (.tuple #[]) ∧ u' = .returning ∧ w' = w := by
  refine callsD_of_wpS Tryz.func85 rfl fun c₀ cs hu => ?_
  apply wpS_seq
  apply wpS_region
  simp [wpOpsS, go_sem, recoverD, hu, Tryz.ntmps85, Exit.thenS]
  apply wpS_seq
  apply wpS_region
  simp [wpOpsS, go_sem, Exit.thenS]
  refine wpS_cond (t := false) (by simp [Act.eval]) ?_
  simp only [Bool.false_eq_true, if_false]
  refine wpS_of_wp (wp_skip ?_)
  cases c₀
  simp_all [bodyPostS, results, Tryz.results85]
set_option maxRecDepth 100000 in
theorem catches (ga gm ge g : Nat) (cs0 : Array Value) (at_ pc er e0 : Int) (older : List PanicEntry) (w : World) (ha : w.heap[ga]? = some (.cells #[.int .u64 at_] 52 (0, 0))) (hm : w.heap[gm]? = some (.cells #[.pointer (some ⟨g, 0, none⟩)] 46 (0, 0))) (he : w.heap[ge]? = some (.cells #[.int .i64 e0] 28 (0, 0))) (hg : w.heap[g]? = some (.cells cs0 74 (0, 0))) (hpc : cs0[35]? = some (.int .u64 pc)) :
    CallsD Tryz.prog 85 #[.pointer (some ⟨ga, 0, none⟩), .pointer (some ⟨gm, 0, none⟩), .pointer (some ⟨ge, 0, none⟩)] (.panicking ({ v := .iface 95 (.agg #[.int .i64 er]), recovered := false } :: older)) w fun e u' w' => e = .returned (.tuple #[]) ∧ u' = .panicking ({ v := .iface 95 (.agg #[.int .i64 er]), recovered := true } :: older) ∧ w' = (((w.alloc (.cells #[.int .i64 er] 95)).setCell ⟨g, 35, none⟩ (.int .u64 at_)).setCell ⟨ge, 0, none⟩ (.int .i64 er)).drew := by
  refine callsD_of_wpS Tryz.func85 rfl fun c₀ cs hu => ?_
  apply wpS_seq
  apply wpS_region
  simp [wpOpsS, go_sem, recoverD, hu, Tryz.ntmps85, Exit.thenS]
  apply wpS_seq
  apply wpS_region
  simp [wpOpsS, go_sem, Exit.thenS]
  refine wpS_cond (t := true) (by simp [Act.eval]) ?_
  simp only [if_true]
  have xa := blk_cell (blk_alloc ha (.cells #[.int .i64 er] 95)) 0
  have xm := blk_cell (blk_alloc hm (.cells #[.int .i64 er] 95)) 0
  have xe := blk_cell (blk_alloc he (.cells #[.int .i64 er] 95)) 0
  have xp := (blk_cell (blk_alloc hg (.cells #[.int .i64 er] 95)) 35).trans hpc
  have fe := blk_frozen (blk_alloc he (.cells #[.int .i64 er] 95)) 0
  have fp := blk_frozen (blk_alloc hg (.cells #[.int .i64 er] 95)) 35
  simp only [List.getElem?_toArray, List.getElem?_cons_zero] at xa xm xe
  have ng : g ≠ w.heap.size := Nat.ne_of_lt (blk_lt hg)
  have nge : ge ≠ w.heap.size := Nat.ne_of_lt (blk_lt he)
  have ngg : g ≠ ge := blk_ne hg he (by decide)
  have xz := blk_cell (blk_new w (.cells #[.int .i64 er] 95)) 0
  simp only [List.getElem?_toArray, List.getElem?_cons_zero] at xz
  refine wpS_of_wp ?_
  have hta : ∀ w, (Instr.typeAssert (.iface 95 (.agg #[.int .i64 er])) 20 95 true).run Tryz.prog w = .ok (.tuple #[.agg #[.int .i64 er], .bool true]) w := fun w => by kernel_rfl
  simp only [Array.replicate, List.replicate, List.setIfInBounds_toArray, List.set, List.append_toArray, List.cons_append, List.nil_append]
  go_wp2
  go_region
  cases c₀
  simp +zetaDelta [bodyPostS, results, Tryz.results85]
end Go.Proofs.YtcgkgaibomcheaaGreat.D1
end

section
namespace Go.Proofs.YtcgkgaibomcheaaGreat.Do
open Go.RowKit Bits Alu Mb Rd YtcgkgaibomcheaaGreatW.PrintWords YtcgkgaibomcheaaGreatW.PrintLast YtcgkgaibomcheaaGreatW.PrintMore
structure Vars (w W : World) (g : Nat) (op rd rs1 rs2 imm : Int) (pc : BitVec 64) : Prop where
  m : W.heap[w.heap.size]? = some (.cells #[.pointer (some ⟨g, 0, none⟩)] 46 (0, 0))
  i : W.heap[w.heap.size + 1]? = some (.cells #[.int .i64 op, .int .i64 rd, .int .i64 rs1, .int .i64 rs2, .int .i64 imm] 42 (0, 0))
  e : W.heap[w.heap.size + 1 + 1]? = some (.cells #[.int .i64 0] 28 (0, 0))
  p : W.heap[w.heap.size + 1 + 1 + 1]? = some (.cells #[.int .u64 (U pc)] 52 (0, 0))
theorem Vars.of {w W W' : World} {g : Nat} {op rd rs1 rs2 imm : Int} {pc : BitVec 64} (h : Vars w W g op rd rs1 rs2 imm pc) (hk : ∀ k, w.heap.size ≤ k → k < w.heap.size + 4 → W'.heap[k]? = W.heap[k]?) : Vars w W' g op rd rs1 rs2 imm pc :=
  ⟨(hk _ (by omega) (by omega)).trans h.m, (hk _ (by omega) (by omega)).trans h.i, (hk _ (by omega) (by omega)).trans h.e, (hk _ (by omega) (by omega)).trans h.p⟩
def ahead (w : World) (g : Nat) (op rd rs1 rs2 imm : Int) (pc : BitVec 64) : World :=
  ((((w.alloc (.cells #[.pointer (some ⟨g, 0, none⟩)] 46)).alloc (.cells #[.int .i64 op, .int .i64 rd, .int .i64 rs1, .int .i64 rs2, .int .i64 imm] 42)).alloc (.cells #[.int .i64 0] 28)).alloc (.cells #[.int .u64 (U pc)] 52)).setCell ⟨g, 35, none⟩ (.int .u64 (U (pc + 4#64)))
theorem new1 (w : World) (o : Obj) (n : Nat) (hn : w.heap.size = n) : (w.alloc o).heap[n]? = some o := hn ▸ blk_new w o
theorem ahead_vars (w : World) (g : Nat) (hg : g < w.heap.size) (op rd rs1 rs2 imm : Int) (pc : BitVec 64) : Vars w (ahead w g op rd rs1 rs2 imm pc) g op rd rs1 rs2 imm pc := by
  unfold ahead
  refine ⟨?_, ?_, ?_, ?_⟩ <;> refine (Below.heap_setCell _ _ _ _ (by simp only; omega)).trans ?_
  · exact blk_alloc (blk_alloc (blk_alloc (blk_new _ _) _) _) _
  · exact blk_alloc (blk_alloc (new1 _ _ _ (by simp only [World.size_alloc])) _) _
  · exact blk_alloc (new1 _ _ _ (by simp only [World.size_alloc])) _
  · exact new1 _ _ _ (by simp only [World.size_alloc])
theorem ahead_mb (w : World) (g : Nat) (v : Nat → Value) (h : MB 74 42 w g v) (op rd rs1 rs2 imm : Int) (pc : BitVec 64) : MB 74 42 (ahead w g op rd rs1 rs2 imm pc) g (atPc v (pc + 4#64)) := by
  unfold ahead
  exact atPc_set (h.below (below_alloc (below_alloc (below_alloc (below_alloc (Below.refl _ _) _) _) _) _)) _
theorem ahead_only (w : World) (g : Nat) (op rd rs1 rs2 imm : Int) (pc : BitVec 64) : Only g w (ahead w g op rd rs1 rs2 imm pc) := by
  unfold ahead
  exact ((Only.refl g w).below (below_alloc (below_alloc (below_alloc (below_alloc (Below.refl _ _) _) _) _) _)).set _ _
def setReg (v : Nat → Value) (rd : Nat) (r : BitVec 64) : Nat → Value := fun i => if i = 3 + rd then .int .u64 (U r) else v i
set_option maxRecDepth 20000 in
set_option maxHeartbeats 2000000 in
theorem do_ok (g gm : Nat) (v : Nat → Value) (op rd rs1 rs2 imm : Int) (pc a b : BitVec 64) (fn : Nat) (w : World) (h : MB 74 42 w g v) (hp : v 35 = .int .u64 (U pc)) (hm : v 41 = .map (some gm))
    (r1 r2 : Nat) (h1 : rs1 = r1) (h2 : rs2 = r2) (hr1 : r1 < 32) (hr2 : r2 < 32) (ha : v (3 + r1) = .int .u64 (U a)) (hb : v (3 + r2) = .int .u64 (U b))
    (rdn : Nat) (h3 : rd = rdn) (hrd : rdn < 32) (r : BitVec 64) (X : (Nat → Value) → World → Prop) (hgmw : gm < w.heap.size) (hgmg : gm ≠ g)
    (hop : Calls Tryz.prog fn #[.pointer (some ⟨g, 0, none⟩), .agg #[.int .i64 op, .int .i64 rd, .int .i64 rs1, .int .i64 rs2, .int .i64 imm], .int .u64 (U a), .int .u64 (U b), .int .u64 (U (BitVec.ofInt 64 imm))] (ahead w g op rd rs1 rs2 imm pc).drew fun e w' => e = .returned (.int .u64 (U r)) ∧ ∃ v', MB 74 42 w' g v' ∧ (∀ k, w.heap.size ≤ k → k < w.heap.size + 4 → w'.heap[k]? = (ahead w g op rd rs1 rs2 imm pc).heap[k]?) ∧ X v' w')
    (hent : ∀ (args : Array Value) (W : World), (callFunc fn args).run Tryz.prog W = .ok (.enter fn args) W)
    (hlook : ∀ W : World, W.heap[gm]? = w.heap[gm]? → (Instr.lookup 70 (.map (some gm)) (.int .i64 op) false).run Tryz.prog W = .ok (.func (.func fn) #[] #[]) W) :
    Calls Tryz.prog 41 #[.pointer (some ⟨g, 0, none⟩), .agg #[.int .i64 op, .int .i64 rd, .int .i64 rs1, .int .i64 rs2, .int .i64 imm]] w fun e w' => e = .returned (.int .i64 0) ∧ ∃ v' w1, X v' w1 ∧ MB 74 42 w' g (if rdn = 0 then v' else setReg v' rdn r) ∧ Wr (fun k => k = g ∨ (w.heap.size ≤ k ∧ k < w.heap.size + 4)) w1 w' := by
  subst h1 h2 h3
  have hmf : ∀ (fn : Fn) (first cap : Array Value) (w : World), (Instr.makeFunc fn first cap).run Tryz.prog w = .ok (.func fn first cap) w := fun _ _ _ _ => rfl
  have hM1 := h.below (below_alloc (below_alloc (below_alloc (Below.refl w.heap.size w) (.cells #[.pointer (some ⟨g, 0, none⟩)] 46)) (.cells #[.int .i64 op, .int .i64 rdn, .int .i64 r1, .int .i64 r2, .int .i64 imm] 42)) (.cells #[.int .i64 0] 28))
  have hM2 := h.below (below_alloc (below_alloc (below_alloc (below_alloc (Below.refl w.heap.size w) (.cells #[.pointer (some ⟨g, 0, none⟩)] 46)) (.cells #[.int .i64 op, .int .i64 rdn, .int .i64 r1, .int .i64 r2, .int .i64 imm] 42)) (.cells #[.int .i64 0] 28)) (.cells #[.int .u64 (U pc)] 52))
  have x1 := (hM1.cell 35 (by omega)).trans (congrArg some hp)
  have x2 := (hM2.cell 35 (by omega)).trans (congrArg some hp)
  have f2 := hM2.frozen 35
  have a4 : IntKind.u64.wrap (U pc + 4) = U (pc + 4#64) := addU pc 4#64
  have HV := Aside0.mk (ahead_vars w g h.lt op rdn r1 r2 imm pc)
  have HM := Aside0.mk (ahead_mb w g v h op rdn r1 r2 imm pc)
  have HO := Aside0.mk (ahead_only w g op rdn r1 r2 imm pc)
  have HLK := Aside0.mk hlook
  have HLT := Aside0.mk h.lt
  have HOP := Aside0.mk hop
  clear hop
  clear hM1 hM2 hlook
  go_enter_defers Tryz.func41, Tryz.ntmps41
  go_wp2
  change Code.wp _ _ _ _ (ahead w g op rdn r1 r2 imm pc)
  obtain ⟨W, hW⟩ : ∃ W, W = ahead w g op rdn r1 r2 imm pc := ⟨_, rfl⟩
  rw [← hW] at HV HM HO HOP ⊢
  have hgm : W.heap[gm]? = w.heap[gm]? := HO.out.1.2 gm hgmw hgmg
  clear hW x1 x2 f2 a4
  have y0 := blk_cell HV.out.m 0
  have y1 := HM.out.cell 41 (by omega)
  have y2 := blk_cell HV.out.i 0
  have y3 := blk_cell HV.out.i 1
  have y4 := blk_cell HV.out.i 2
  have y5 := blk_cell HV.out.i 3
  have y6 := blk_cell HV.out.i 4
  have y7 := HM.out.cell (3 + r1) (by omega)
  have y8 := HM.out.cell (3 + r2) (by omega)
  rw [show atPc v (pc + 4#64) 41 = v 41 from rfl, hm] at y1
  rw [show atPc v (pc + 4#64) (3 + r1) = v (3 + r1) from if_neg (by omega), ha] at y7
  rw [show atPc v (pc + 4#64) (3 + r2) = v (3 + r2) from if_neg (by omega), hb] at y8
  simp only [List.getElem?_toArray, List.getElem?_cons_zero, List.getElem?_cons_succ] at y0 y2 y3 y4 y5 y6
  have q0 : (0 : Int) ≤ (r1 : Int) := by omega
  have q1 : (r1 : Int) < 32 := by omega
  have q2 : (0 : Int) ≤ (r2 : Int) := by omega
  have q3 : (r2 : Int) < 32 := by omega
  have hk := wrapU imm
  have hl := HLK.out W hgm
  have hl2 := HLK.out W.drew hgm
  go_still_tail 26, (by kernel_rfl)
  change wpList _ _ _ _ _ W.drew
  clear y0 y1 y2 y3 y4 y5 y6 y7 y8 hl hl2 hk
  go_wp2_with fail
  refine HOP.out.mono ?_
  rintro e w6 ⟨rfl, v', hm6, hk6, hx6⟩
  have HM6 := Aside0.mk hm6
  have HX6 := Aside0.mk hx6
  have HV6 := Aside0.mk (HV.out.of hk6)
  clear HOP hm6 hk6 hx6 HV HM HO HLK hgm hm hp ha hb h hent
  have z1 := blk_cell HV6.out.i 1
  have z0 := blk_cell HV6.out.m 0
  have ze := blk_cell HV6.out.e 0
  have fe := blk_frozen HV6.out.e 0
  simp only [List.getElem?_toArray, List.getElem?_cons_zero, List.getElem?_cons_succ] at z1 z0 ze
  by_cases h0 : rdn = 0
  · subst h0
    have hne : g ≠ w.heap.size + 1 + 1 := by have := HLT.out; omega
    have HM7 := Aside0.mk (HM6.out.far (p := ⟨w.heap.size + 1 + 1, 0, none⟩) hne (.int .i64 0))
    have HE7 := Aside0.mk (blk_put (cs' := #[.int .i64 0]) HV6.out.e 0 (.int .i64 0) rfl)
    go_wp2
    refine leaves_cons (f := 85) (args := #[.pointer (some ⟨w.heap.size + 1 + 1 + 1, 0, none⟩), .pointer (some ⟨w.heap.size, 0, none⟩), .pointer (some ⟨w.heap.size + 1 + 1, 0, none⟩)]) (by simp) (by simp [go_sem]) ?_
    refine (D1.idle ⟨w.heap.size + 1 + 1 + 1, 0, none⟩ ⟨w.heap.size, 0, none⟩ ⟨w.heap.size + 1 + 1, 0, none⟩ _).mono ?_
    rintro e u' w'' ⟨rfl, rfl, rfl⟩
    have hc := blk_cell HE7.out 0
    simp only [List.getElem?_toArray, List.getElem?_cons_zero] at hc
    refine ⟨.int .i64 0, ?_, ?_⟩
    · simp [results, Tryz.results41, go_sem, hc]
    · refine ⟨rfl, v', w6, HX6.out, HM7.out, (Wr.refl _ _).set (p := ⟨w.heap.size + 1 + 1, 0, none⟩) (.inl (.inr ?_)) _⟩
      show w.heap.size ≤ w.heap.size + 1 + 1 ∧ w.heap.size + 1 + 1 < w.heap.size + 4
      omega
  · have hne : g ≠ w.heap.size + 1 + 1 := by have := HLT.out; omega
    have h0a : ((rdn : Int) == 0) = false := by simpa using h0
    have h0b : ((rdn : Int) != 0) = true := by simpa using h0
    have zc := HM6.out.cell (3 + rdn) (by omega)
    have zf := HM6.out.frozen (3 + rdn)
    have q0 : (0 : Int) ≤ (rdn : Int) := by omega
    have q1 : (rdn : Int) < 32 := by omega
    have HM8 := Aside0.mk (show MB 74 42 (w6.setCell ⟨g, 3 + rdn, none⟩ (.int .u64 (U r))).drew g (setReg v' rdn r) from (HM6.out.put (3 + rdn) (.int .u64 (U r)) (setReg v' rdn r) (if_pos rfl) (fun i _ hi => if_neg hi)).of rfl)
    have HE8 := Aside0.mk (show (w6.setCell ⟨g, 3 + rdn, none⟩ (.int .u64 (U r))).drew.heap[w.heap.size + 1 + 1]? = some (.cells #[.int .i64 0] 28 (0, 0)) from blk_far HV6.out.e (p := ⟨g, 3 + rdn, none⟩) (fun h => hne h.symm) _)
    have HW8 := Aside0.mk (show Wr (fun k => k = g ∨ (w.heap.size ≤ k ∧ k < w.heap.size + 4)) w6 (w6.setCell ⟨g, 3 + rdn, none⟩ (.int .u64 (U r))).drew from (Wr.refl _ _).set (p := ⟨g, 3 + rdn, none⟩) (.inl (.inl rfl)) _)
    go_wp2
    go_region
    have yf := blk_cell HE8.out 0
    have ff := blk_frozen HE8.out 0
    simp only [List.getElem?_toArray, List.getElem?_cons_zero] at yf
    clear z1 z0 ze fe zc zf HV6
    obtain ⟨w8, hw8⟩ : ∃ w8, w8 = (w6.setCell ⟨g, 3 + rdn, none⟩ (.int .u64 (U r))).drew := ⟨_, rfl⟩
    rw [← hw8] at HM8 HE8 HW8 yf ff ⊢
    clear hw8
    have HM7 := Aside0.mk (HM8.out.far (p := ⟨w.heap.size + 1 + 1, 0, none⟩) hne (.int .i64 0))
    have HE7 := Aside0.mk (blk_put (cs' := #[.int .i64 0]) HE8.out 0 (.int .i64 0) rfl)
    go_wp2
    refine leaves_cons (f := 85) (args := #[.pointer (some ⟨w.heap.size + 1 + 1 + 1, 0, none⟩), .pointer (some ⟨w.heap.size, 0, none⟩), .pointer (some ⟨w.heap.size + 1 + 1, 0, none⟩)]) (by simp) (by simp [go_sem]) ?_
    refine (D1.idle ⟨w.heap.size + 1 + 1 + 1, 0, none⟩ ⟨w.heap.size, 0, none⟩ ⟨w.heap.size + 1 + 1, 0, none⟩ _).mono ?_
    rintro e u' w'' ⟨rfl, rfl, rfl⟩
    have hc := blk_cell HE7.out 0
    simp only [List.getElem?_toArray, List.getElem?_cons_zero] at hc
    refine ⟨.int .i64 0, ?_, ?_⟩
    · simp [results, Tryz.results41, go_sem, hc]
    · refine ⟨rfl, v', w6, HX6.out, HM7.out, HW8.out.set (p := ⟨w.heap.size + 1 + 1, 0, none⟩) (.inl (.inr ?_)) _⟩
      show w.heap.size ≤ w.heap.size + 1 + 1 ∧ w.heap.size + 1 + 1 < w.heap.size + 4
      omega
set_option maxRecDepth 20000 in
set_option maxHeartbeats 2000000 in
theorem do_bad (g gm : Nat) (v : Nat → Value) (op rd rs1 rs2 imm : Int) (pc a b : BitVec 64) (fn : Nat) (w : World) (h : MB 74 42 w g v) (hp : v 35 = .int .u64 (U pc)) (hm : v 41 = .map (some gm))
    (r1 r2 : Nat) (h1 : rs1 = r1) (h2 : rs2 = r2) (hr1 : r1 < 32) (hr2 : r2 < 32) (ha : v (3 + r1) = .int .u64 (U a)) (hb : v (3 + r2) = .int .u64 (U b))
    (rdn : Nat) (h3 : rd = rdn) (hrd : rdn < 32) (er : Int) (X : (Nat → Value) → World → Prop) (hgmw : gm < w.heap.size) (hgmg : gm ≠ g)
    (hop : Calls Tryz.prog fn #[.pointer (some ⟨g, 0, none⟩), .agg #[.int .i64 op, .int .i64 rd, .int .i64 rs1, .int .i64 rs2, .int .i64 imm], .int .u64 (U a), .int .u64 (U b), .int .u64 (U (BitVec.ofInt 64 imm))] (ahead w g op rd rs1 rs2 imm pc).drew fun e w' => e = .panicked [{ v := .iface 95 (.agg #[.int .i64 er]), recovered := false }] ∧ ∃ v' pc', MB 74 42 w' g v' ∧ v' 35 = .int .u64 (U pc') ∧ (∀ k, w.heap.size ≤ k → k < w.heap.size + 4 → w'.heap[k]? = (ahead w g op rd rs1 rs2 imm pc).heap[k]?) ∧ X v' w')
    (hent : ∀ (args : Array Value) (W : World), (callFunc fn args).run Tryz.prog W = .ok (.enter fn args) W)
    (hlook : ∀ W : World, W.heap[gm]? = w.heap[gm]? → (Instr.lookup 70 (.map (some gm)) (.int .i64 op) false).run Tryz.prog W = .ok (.func (.func fn) #[] #[]) W) :
    Calls Tryz.prog 41 #[.pointer (some ⟨g, 0, none⟩), .agg #[.int .i64 op, .int .i64 rd, .int .i64 rs1, .int .i64 rs2, .int .i64 imm]] w fun e w' => e = .returned (.int .i64 er) ∧ ∃ v' w1, X v' w1 ∧ MB 74 42 w' g (atPc v' pc) ∧ Wr (fun k => k = g ∨ (w.heap.size ≤ k ∧ k < w.heap.size + 4)) w1 w' := by
  subst h1 h2 h3
  have hmf : ∀ (fn : Fn) (first cap : Array Value) (w : World), (Instr.makeFunc fn first cap).run Tryz.prog w = .ok (.func fn first cap) w := fun _ _ _ _ => rfl
  have hM1 := h.below (below_alloc (below_alloc (below_alloc (Below.refl w.heap.size w) (.cells #[.pointer (some ⟨g, 0, none⟩)] 46)) (.cells #[.int .i64 op, .int .i64 rdn, .int .i64 r1, .int .i64 r2, .int .i64 imm] 42)) (.cells #[.int .i64 0] 28))
  have hM2 := h.below (below_alloc (below_alloc (below_alloc (below_alloc (Below.refl w.heap.size w) (.cells #[.pointer (some ⟨g, 0, none⟩)] 46)) (.cells #[.int .i64 op, .int .i64 rdn, .int .i64 r1, .int .i64 r2, .int .i64 imm] 42)) (.cells #[.int .i64 0] 28)) (.cells #[.int .u64 (U pc)] 52))
  have x1 := (hM1.cell 35 (by omega)).trans (congrArg some hp)
  have x2 := (hM2.cell 35 (by omega)).trans (congrArg some hp)
  have f2 := hM2.frozen 35
  have a4 : IntKind.u64.wrap (U pc + 4) = U (pc + 4#64) := addU pc 4#64
  have HV := Aside0.mk (ahead_vars w g h.lt op rdn r1 r2 imm pc)
  have HM := Aside0.mk (ahead_mb w g v h op rdn r1 r2 imm pc)
  have HO := Aside0.mk (ahead_only w g op rdn r1 r2 imm pc)
  have HLK := Aside0.mk hlook
  have HLT := Aside0.mk h.lt
  have HOP := Aside0.mk hop
  clear hop
  clear hM1 hM2 hlook
  go_enter_defers Tryz.func41, Tryz.ntmps41
  go_wp2
  change Code.wp _ _ _ _ (ahead w g op rdn r1 r2 imm pc)
  obtain ⟨W, hW⟩ : ∃ W, W = ahead w g op rdn r1 r2 imm pc := ⟨_, rfl⟩
  rw [← hW] at HV HM HO HOP ⊢
  have hgm : W.heap[gm]? = w.heap[gm]? := HO.out.1.2 gm hgmw hgmg
  clear hW x1 x2 f2 a4
  have y0 := blk_cell HV.out.m 0
  have y1 := HM.out.cell 41 (by omega)
  have y2 := blk_cell HV.out.i 0
  have y3 := blk_cell HV.out.i 1
  have y4 := blk_cell HV.out.i 2
  have y5 := blk_cell HV.out.i 3
  have y6 := blk_cell HV.out.i 4
  have y7 := HM.out.cell (3 + r1) (by omega)
  have y8 := HM.out.cell (3 + r2) (by omega)
  rw [show atPc v (pc + 4#64) 41 = v 41 from rfl, hm] at y1
  rw [show atPc v (pc + 4#64) (3 + r1) = v (3 + r1) from if_neg (by omega), ha] at y7
  rw [show atPc v (pc + 4#64) (3 + r2) = v (3 + r2) from if_neg (by omega), hb] at y8
  simp only [List.getElem?_toArray, List.getElem?_cons_zero, List.getElem?_cons_succ] at y0 y2 y3 y4 y5 y6
  have q0 : (0 : Int) ≤ (r1 : Int) := by omega
  have q1 : (r1 : Int) < 32 := by omega
  have q2 : (0 : Int) ≤ (r2 : Int) := by omega
  have q3 : (r2 : Int) < 32 := by omega
  have hk := wrapU imm
  have hl := HLK.out W hgm
  have hl2 := HLK.out W.drew hgm
  go_still_tail 26, (by kernel_rfl)
  change wpList _ _ _ _ _ W.drew
  clear y0 y1 y2 y3 y4 y5 y6 y7 y8 hl hl2 hk
  go_wp2_with fail
  refine HOP.out.mono ?_
  rintro e w6 ⟨rfl, v', pc', hm6, hp6, hk6, hx6⟩
  have HM6 := Aside0.mk hm6
  have HX6 := Aside0.mk hx6
  have HP6 := Aside0.mk hp6
  have HV6 := Aside0.mk (HV.out.of hk6)
  clear HOP hm6 hk6 hx6 HV HM HO HLK hgm hm hp ha hb h hent hp6
  show bodyPostD Tryz.prog Tryz.f41 _ (Exit.panic _) _ _
  refine leaves_cons (f := 85) (args := #[.pointer (some ⟨w.heap.size + 1 + 1 + 1, 0, none⟩), .pointer (some ⟨w.heap.size, 0, none⟩), .pointer (some ⟨w.heap.size + 1 + 1, 0, none⟩)]) (by simp) (by simp [go_sem]) ?_
  obtain ⟨cs, b1, b2⟩ := HM6.out
  refine (D1.catches (w.heap.size + 1 + 1 + 1) w.heap.size (w.heap.size + 1 + 1) g cs (U pc) (U pc') er 0 [] w6 HV6.out.p HV6.out.m HV6.out.e b1 ((b2 35 (by omega)).trans (congrArg some HP6.out))).mono ?_
  rintro e u' w'' ⟨rfl, rfl, rfl⟩
  have hng : g ≠ w.heap.size + 1 + 1 := by have := HLT.out; omega
  have M1 := atPc_set (HM6.out.below (below_alloc (Below.refl w6.heap.size w6) (.cells #[.int .i64 er] 95))) pc
  have E1 := blk_far (blk_alloc HV6.out.e (.cells #[.int .i64 er] 95)) (p := ⟨g, 35, none⟩) (fun h => hng h.symm) (.int .u64 (U pc))
  have E2 := blk_put (cs' := #[.int .i64 er]) E1 0 (.int .i64 er) rfl
  have hc := blk_cell E2 0
  simp only [List.getElem?_toArray, List.getElem?_cons_zero] at hc
  have W1 : Wr (fun k => k = g ∨ (w.heap.size ≤ k ∧ k < w.heap.size + 4)) w6 (((w6.alloc (.cells #[.int .i64 er] 95)).setCell ⟨g, 35, none⟩ (.int .u64 (U pc))).setCell ⟨w.heap.size + 1 + 1, 0, none⟩ (.int .i64 er)).drew := by
    refine Wr.set (p := ⟨w.heap.size + 1 + 1, 0, none⟩) (Wr.set (p := ⟨g, 35, none⟩) ((Wr.refl _ _).below (below_alloc (Below.refl _ _) _)) (.inl (.inl rfl)) _) (.inl (.inr ?_)) _
    show w.heap.size ≤ w.heap.size + 1 + 1 ∧ w.heap.size + 1 + 1 < w.heap.size + 4
    omega
  refine ⟨.int .i64 er, ?_, rfl, v', w6, HX6.out, (M1.far (p := ⟨w.heap.size + 1 + 1, 0, none⟩) hng _).of rfl, W1⟩
  simp [results, Tryz.results41, go_sem, hc]
end Go.Proofs.YtcgkgaibomcheaaGreat.Do
end

section
namespace Go.Proofs.YtcgkgaibomcheaaGreat.Tab
open Go.RowKit Go.MapKept Bits Mb YtcgkgaibomcheaaGreatW.PrintWords YtcgkgaibomcheaaGreatW.PrintLast YtcgkgaibomcheaaGreatW.PrintMore
theorem isKey (k : Int) : IsKey (TypeDesc.int .i64) (.int .i64 k) := by simp [IsKey]
theorem upd (W : World) (b : Nat) (es : Array MapEntry) (clock : Nat) (hb : W.heap[b]? = some (.map es clock)) (k : Int) (v : Value) (hf : Instr.findNow (TypeDesc.int .i64) (.int .i64 k) es.toList 0 = some none) :
    ∃ W', (Instr.mapUpdate 70 (.map (some b)) (.int .i64 k) v).run Tryz.prog W = .ok () W' ∧ W'.heap[b]? = some (.map (es.push { key := .int .i64 k, val := v, born := clock }) (clock + 1)) ∧ W'.heap.size = W.heap.size ∧ (∀ i, i ≠ b → W'.heap[i]? = W.heap[i]?) ∧ W'.os = W.os ∧ W'.tape = W.tape ∧ W'.output = W.output := by
  refine ⟨_, by simp [Instr.mapUpdate, run_underlying Tryz.underlying70, MapKept.run_getObj_map hb, run_checkKey Tryz.underlying40 (isKey k), run_findKey Tryz.underlying40 hf, MapKept.run_setObj_map _ hb, Result.andThen]; rfl, ?_⟩
  have hlt : b < W.heap.size := (Array.getElem?_eq_some_iff.1 hb).1
  refine ⟨?_, ?_, fun i hi => ?_, rfl, rfl, rfl⟩
  · simp [hlt]
  · simp
  · simp [Array.getElem?_setIfInBounds, fun e : b = i => hi e.symm, Ne.symm hi]
theorem look (W : World) (b : Nat) (es : Array MapEntry) (clock : Nat) (hb : W.heap[b]? = some (.map es clock)) (k : Int) (i : Nat) (v : Value) (hf : Instr.findNow (TypeDesc.int .i64) (.int .i64 k) es.toList 0 = some (some (i, v))) :
    (Instr.lookup 70 (.map (some b)) (.int .i64 k) false).run Tryz.prog W = .ok v W := by
  simp [Instr.lookup, run_underlying Tryz.underlying70, MapKept.run_getObj_map hb, run_checkKey Tryz.underlying40 (isKey k), run_findKey Tryz.underlying40 hf, Result.andThen]
def tab : Nat → Array MapEntry
  | 0 => #[]
  | i + 1 => (tab i).push { key := .int .i64 ((i + 1 : Nat) : Int), val := .func (.func (49 + i)) #[] #[], born := i }
theorem fresh : ∀ i : Fin 34, Instr.findNow (TypeDesc.int .i64) (.int .i64 ((i.1 + 1 : Nat) : Int)) (tab i.1).toList 0 = some none := by
  intro i
  rcases i with ⟨i, hi⟩
  rcases i with _ | _ | _ | _ | _ | _ | _ | _ | _ | _ | _ | _ | _ | _ | _ | _ | _ | _ | _ | _ | _ | _ | _ | _ | _ | _ | _ | _ | _ | _ | _ | _ | _ | _ | i
  · kernel_rfl
  · kernel_rfl
  · kernel_rfl
  · kernel_rfl
  · kernel_rfl
  · kernel_rfl
  · kernel_rfl
  · kernel_rfl
  · kernel_rfl
  · kernel_rfl
  · kernel_rfl
  · kernel_rfl
  · kernel_rfl
  · kernel_rfl
  · kernel_rfl
  · kernel_rfl
  · kernel_rfl
  · kernel_rfl
  · kernel_rfl
  · kernel_rfl
  · kernel_rfl
  · kernel_rfl
  · kernel_rfl
  · kernel_rfl
  · kernel_rfl
  · kernel_rfl
  · kernel_rfl
  · kernel_rfl
  · kernel_rfl
  · kernel_rfl
  · kernel_rfl
  · kernel_rfl
  · kernel_rfl
  · kernel_rfl
  · exact absurd hi (by omega)
theorem found : ∀ i : Fin 34, Instr.findNow (TypeDesc.int .i64) (.int .i64 ((i.1 + 1 : Nat) : Int)) (tab 34).toList 0 = some (some (i.1, .func (.func (49 + i.1)) #[] #[])) := by
  intro i
  rcases i with ⟨i, hi⟩
  rcases i with _ | _ | _ | _ | _ | _ | _ | _ | _ | _ | _ | _ | _ | _ | _ | _ | _ | _ | _ | _ | _ | _ | _ | _ | _ | _ | _ | _ | _ | _ | _ | _ | _ | _ | i
  · kernel_rfl
  · kernel_rfl
  · kernel_rfl
  · kernel_rfl
  · kernel_rfl
  · kernel_rfl
  · kernel_rfl
  · kernel_rfl
  · kernel_rfl
  · kernel_rfl
  · kernel_rfl
  · kernel_rfl
  · kernel_rfl
  · kernel_rfl
  · kernel_rfl
  · kernel_rfl
  · kernel_rfl
  · kernel_rfl
  · kernel_rfl
  · kernel_rfl
  · kernel_rfl
  · kernel_rfl
  · kernel_rfl
  · kernel_rfl
  · kernel_rfl
  · kernel_rfl
  · kernel_rfl
  · kernel_rfl
  · kernel_rfl
  · kernel_rfl
  · kernel_rfl
  · kernel_rfl
  · kernel_rfl
  · kernel_rfl
  · exact absurd hi (by omega)
section
variable {ops : Array Oper} {rest : List Oper} {o : Oper} {a : Act} {Q : Exit → Act → World → Prop}
theorem ins (i : Nat) (hi : i < 34) {w W : World} (b : Nat) (hgd : o.guard = none) (hd : o.dst = none) (m k v : Operand) (ho : o.op = .insert 70 m k v) (hm : a.eval m = .map (some b)) (hk : a.eval k = .int .i64 ((i + 1 : Nat) : Int)) (hv : a.eval v = .func (.func (49 + i)) #[] #[])
    (hb : W.heap[b]? = some (.map (tab i) i)) (hB : Below w.heap.size w W) (hbw : w.heap.size ≤ b)
    (h : ∀ W', W'.heap[b]? = some (.map (tab (i + 1)) (i + 1)) → Below w.heap.size w W' → wpList Tryz.prog ops Q rest a W') : wpList Tryz.prog ops Q (o :: rest) a W := by
  obtain ⟨W', hrun, h1, h2, h3, h4, h5, h6⟩ := upd W b (tab i) i hb ((i + 1 : Nat) : Int) (.func (.func (49 + i)) #[] #[]) (fresh ⟨i, hi⟩)
  have hn := h W' h1 ⟨h4.trans hB.os, h5.trans hB.tape, h6.trans hB.output, by rw [h2]; exact hB.size, fun j hj => (h3 j (by omega)).trans (hB.block j hj)⟩
  obtain ⟨n, hnn⟩ : ∃ n : Int, ((i + 1 : Nat) : Int) = n := ⟨_, rfl⟩
  rw [hnn] at hk hrun
  refine wpList_plain hgd fun K hK => ?_
  unfold Oper.wp
  rw [show (execOp a.eval o).run Tryz.prog W = .ok .skip W' from by
    rw [show execOp a.eval o = _ from rfl]
    simp [execOp, ho, hm, hk, hv, hrun, Result.andThen]]
  refine hK _ _ ?_
  rw [hd]
  exact hn
end
set_option maxRecDepth 20000 in
set_option maxHeartbeats 1000000 in
theorem calls (w : World) : Calls Tryz.prog 35 #[] w fun e w' => e = .returned (.map (some w.heap.size)) ∧ w'.heap[w.heap.size]? = some (.map (tab 34) 34) ∧ Below w.heap.size w w' := by
  have hmm := @run_makeMap Tryz.prog
  have hb0 : (w.alloc (.map #[] 0)).heap[w.heap.size]? = some (.map (tab 0) 0) := blk_new w (.map #[] 0)
  have hB0 : Below w.heap.size w (w.alloc (.map #[] 0)) := below_alloc (Below.refl _ _) _
  go_enter Tryz.func35, Tryz.ntmps35
  go_wp2_with (first | (refine ins 0 (by omega) w.heap.size rfl rfl _ _ _ rfl rfl rfl rfl hb0 hB0 (Nat.le_refl _) ?_; intro w1 hb1 hB1; clear hb0 hB0) | (refine ins 1 (by omega) w.heap.size rfl rfl _ _ _ rfl rfl rfl rfl hb1 hB1 (Nat.le_refl _) ?_; intro w2 hb2 hB2; clear hb1 hB1) | (refine ins 2 (by omega) w.heap.size rfl rfl _ _ _ rfl rfl rfl rfl hb2 hB2 (Nat.le_refl _) ?_; intro w3 hb3 hB3; clear hb2 hB2) | (refine ins 3 (by omega) w.heap.size rfl rfl _ _ _ rfl rfl rfl rfl hb3 hB3 (Nat.le_refl _) ?_; intro w4 hb4 hB4; clear hb3 hB3) | (refine ins 4 (by omega) w.heap.size rfl rfl _ _ _ rfl rfl rfl rfl hb4 hB4 (Nat.le_refl _) ?_; intro w5 hb5 hB5; clear hb4 hB4) | (refine ins 5 (by omega) w.heap.size rfl rfl _ _ _ rfl rfl rfl rfl hb5 hB5 (Nat.le_refl _) ?_; intro w6 hb6 hB6; clear hb5 hB5) | (refine ins 6 (by omega) w.heap.size rfl rfl _ _ _ rfl rfl rfl rfl hb6 hB6 (Nat.le_refl _) ?_; intro w7 hb7 hB7; clear hb6 hB6) | (refine ins 7 (by omega) w.heap.size rfl rfl _ _ _ rfl rfl rfl rfl hb7 hB7 (Nat.le_refl _) ?_; intro w8 hb8 hB8; clear hb7 hB7) | (refine ins 8 (by omega) w.heap.size rfl rfl _ _ _ rfl rfl rfl rfl hb8 hB8 (Nat.le_refl _) ?_; intro w9 hb9 hB9; clear hb8 hB8) | (refine ins 9 (by omega) w.heap.size rfl rfl _ _ _ rfl rfl rfl rfl hb9 hB9 (Nat.le_refl _) ?_; intro w10 hb10 hB10; clear hb9 hB9) | (refine ins 10 (by omega) w.heap.size rfl rfl _ _ _ rfl rfl rfl rfl hb10 hB10 (Nat.le_refl _) ?_; intro w11 hb11 hB11; clear hb10 hB10) | (refine ins 11 (by omega) w.heap.size rfl rfl _ _ _ rfl rfl rfl rfl hb11 hB11 (Nat.le_refl _) ?_; intro w12 hb12 hB12; clear hb11 hB11) | (refine ins 12 (by omega) w.heap.size rfl rfl _ _ _ rfl rfl rfl rfl hb12 hB12 (Nat.le_refl _) ?_; intro w13 hb13 hB13; clear hb12 hB12) | (refine ins 13 (by omega) w.heap.size rfl rfl _ _ _ rfl rfl rfl rfl hb13 hB13 (Nat.le_refl _) ?_; intro w14 hb14 hB14; clear hb13 hB13) | (refine ins 14 (by omega) w.heap.size rfl rfl _ _ _ rfl rfl rfl rfl hb14 hB14 (Nat.le_refl _) ?_; intro w15 hb15 hB15; clear hb14 hB14) | (refine ins 15 (by omega) w.heap.size rfl rfl _ _ _ rfl rfl rfl rfl hb15 hB15 (Nat.le_refl _) ?_; intro w16 hb16 hB16; clear hb15 hB15) | (refine ins 16 (by omega) w.heap.size rfl rfl _ _ _ rfl rfl rfl rfl hb16 hB16 (Nat.le_refl _) ?_; intro w17 hb17 hB17; clear hb16 hB16) | (refine ins 17 (by omega) w.heap.size rfl rfl _ _ _ rfl rfl rfl rfl hb17 hB17 (Nat.le_refl _) ?_; intro w18 hb18 hB18; clear hb17 hB17) | (refine ins 18 (by omega) w.heap.size rfl rfl _ _ _ rfl rfl rfl rfl hb18 hB18 (Nat.le_refl _) ?_; intro w19 hb19 hB19; clear hb18 hB18) | (refine ins 19 (by omega) w.heap.size rfl rfl _ _ _ rfl rfl rfl rfl hb19 hB19 (Nat.le_refl _) ?_; intro w20 hb20 hB20; clear hb19 hB19) | (refine ins 20 (by omega) w.heap.size rfl rfl _ _ _ rfl rfl rfl rfl hb20 hB20 (Nat.le_refl _) ?_; intro w21 hb21 hB21; clear hb20 hB20) | (refine ins 21 (by omega) w.heap.size rfl rfl _ _ _ rfl rfl rfl rfl hb21 hB21 (Nat.le_refl _) ?_; intro w22 hb22 hB22; clear hb21 hB21) | (refine ins 22 (by omega) w.heap.size rfl rfl _ _ _ rfl rfl rfl rfl hb22 hB22 (Nat.le_refl _) ?_; intro w23 hb23 hB23; clear hb22 hB22) | (refine ins 23 (by omega) w.heap.size rfl rfl _ _ _ rfl rfl rfl rfl hb23 hB23 (Nat.le_refl _) ?_; intro w24 hb24 hB24; clear hb23 hB23) | (refine ins 24 (by omega) w.heap.size rfl rfl _ _ _ rfl rfl rfl rfl hb24 hB24 (Nat.le_refl _) ?_; intro w25 hb25 hB25; clear hb24 hB24) | (refine ins 25 (by omega) w.heap.size rfl rfl _ _ _ rfl rfl rfl rfl hb25 hB25 (Nat.le_refl _) ?_; intro w26 hb26 hB26; clear hb25 hB25) | (refine ins 26 (by omega) w.heap.size rfl rfl _ _ _ rfl rfl rfl rfl hb26 hB26 (Nat.le_refl _) ?_; intro w27 hb27 hB27; clear hb26 hB26) | (refine ins 27 (by omega) w.heap.size rfl rfl _ _ _ rfl rfl rfl rfl hb27 hB27 (Nat.le_refl _) ?_; intro w28 hb28 hB28; clear hb27 hB27) | (refine ins 28 (by omega) w.heap.size rfl rfl _ _ _ rfl rfl rfl rfl hb28 hB28 (Nat.le_refl _) ?_; intro w29 hb29 hB29; clear hb28 hB28) | (refine ins 29 (by omega) w.heap.size rfl rfl _ _ _ rfl rfl rfl rfl hb29 hB29 (Nat.le_refl _) ?_; intro w30 hb30 hB30; clear hb29 hB29) | (refine ins 30 (by omega) w.heap.size rfl rfl _ _ _ rfl rfl rfl rfl hb30 hB30 (Nat.le_refl _) ?_; intro w31 hb31 hB31; clear hb30 hB30) | (refine ins 31 (by omega) w.heap.size rfl rfl _ _ _ rfl rfl rfl rfl hb31 hB31 (Nat.le_refl _) ?_; intro w32 hb32 hB32; clear hb31 hB31) | (refine ins 32 (by omega) w.heap.size rfl rfl _ _ _ rfl rfl rfl rfl hb32 hB32 (Nat.le_refl _) ?_; intro w33 hb33 hB33; clear hb32 hB32) | (refine ins 33 (by omega) w.heap.size rfl rfl _ _ _ rfl rfl rfl rfl hb33 hB33 (Nat.le_refl _) ?_; intro w34 hb34 hB34; clear hb33 hB33))
  go_ret
  exact ⟨rfl, hb34, hB34⟩
theorem lookAt (W : World) (b : Nat) (hb : W.heap[b]? = some (.map (tab 34) 34)) (n : Nat) (h1 : 1 ≤ n) (h2 : n ≤ 34) : (Instr.lookup 70 (.map (some b)) (.int .i64 (n : Int)) false).run Tryz.prog W = .ok (.func (.func (48 + n)) #[] #[]) W := by
  have h := found ⟨n - 1, by omega⟩
  have e1 : n - 1 + 1 = n := by omega
  have e2 : 49 + (n - 1) = 48 + n := by omega
  simp only [e1, e2] at h
  exact look W b (tab 34) 34 hb (n : Int) (n - 1) _ h
end Go.Proofs.YtcgkgaibomcheaaGreat.Tab
end
