/- Joined texts: Fit, EndsL, OpenEnv, OpenRv, FineP, Conf, AccessL. Conditions: those of each theorem. -/
import Derived.Test.YtcgkgaibomcheaaGreatZC01
import Derived.Test.YtcgkgaibomcheaaGreatZT19
import Derived.Test.YtcgkgaibomcheaaGreatZC03
import Derived.Test.YtcgkgaibomcheaaGreatZC12
import Derived.Test.YtcgkgaibomcheaaGreatZT18
import Derived.Test.YtcgkgaibomcheaaGreatZC16
set_option linter.unusedVariables false
set_option linter.unusedSimpArgs false
section
namespace Go.Proofs.YtcgkgaibomcheaaGreat.Fit
open Go.RowKit Bits Mb Rd RDec EM EOut PRvemuRuns YtcgkgaibomcheaaGreatW.PrintWords YtcgkgaibomcheaaGreatW.PrintLast YtcgkgaibomcheaaGreatW.PrintMore
def fitFr (fr : Int) : Int := if 65536 < fr ∧ fr ≤ 1048576 then Int.tmod fr 65536 else fr
def fitFu (fu : Int) : Int := if 2000 < fu then 2000 else fu
set_option maxRecDepth 20000 in
set_option maxHeartbeats 1000000 in
theorem fit (cA dA rA sA : Option Addr) (cc dc rc sc nC nD nR nS : Nat) (fr fu : Int) (w : World) :
 Calls Tryz.prog 11 #[.agg #[.slice cA nC cc, .slice dA nD dc, .slice rA nR rc, .slice sA nS sc, .int .i64 fr, .int .i64 fu]] w fun e w' => e = .returned (.agg #[.slice cA nC cc, .slice dA nD dc, .slice rA nR rc, .slice sA nS sc, .int .i64 (fitFr fr), .int .i64 (fitFu fu)]) ∧ Below w.heap.size w w' := by
 by_cases hfu : 2000 < fu
 · have t1 : decide (fu > 2000) = true := decide_eq_true hfu
   have u1 : (2000 < fu) = True := eq_true hfu
   have hq : fitFu fu = 2000 := if_pos hfu
   rw [hq]
   clear hq hfu
   by_cases h1 : 65536 < fr
   · have t2 : decide (fr > 65536) = true := decide_eq_true h1
     have u2 : (65536 < fr) = True := eq_true h1
     by_cases h2 : fr ≤ 1048576
     · have t3 : decide (fr ≤ 1048576) = true := decide_eq_true h2
       have u3 : (fr ≤ 1048576) = True := eq_true h2
       have hq : fitFr fr = Int.tmod fr 65536 := if_pos ⟨h1, h2⟩
       rw [hq]
       clear hq h1 h2
       go_enter Tryz.func11, Tryz.ntmps11
       go_wp2_with fail
       have hp : ((w.alloc (.cells #[.slice cA nC cc, .slice dA nD dc, .slice rA nR rc, .slice sA nS sc, .int .i64 (Int.tmod fr 65536), .int .i64 2000] 25)).alloc (.cells #[.slice cA nC cc, .slice dA nD dc, .slice rA nR rc, .slice sA nS sc, .int .i64 (Int.tmod fr 65536), .int .i64 2000] 25)).heap[w.heap.size + 1]? = some (.cells #[.slice cA nC cc, .slice dA nD dc, .slice rA nR rc, .slice sA nS sc, .int .i64 (Int.tmod fr 65536), .int .i64 2000] 25) := by
        have h := blk_new (w.alloc (.cells #[.slice cA nC cc, .slice dA nD dc, .slice rA nR rc, .slice sA nS sc, .int .i64 (Int.tmod fr 65536), .int .i64 2000] 25)) (.cells #[.slice cA nC cc, .slice dA nD dc, .slice rA nR rc, .slice sA nS sc, .int .i64 (Int.tmod fr 65536), .int .i64 2000] 25)
        rw [World.size_alloc] at h
        exact h
       refine bodyPost_ret (results_c (fn := Tryz.f11) (p := 2) (ty := 25) rfl _ _ (w.heap.size + 1) 25 #[.slice cA nC cc, .slice dA nD dc, .slice rA nR rc, .slice sA nS sc, .int .i64 (Int.tmod fr 65536), .int .i64 2000] (0, 0) _ rfl hp Tryz.underlying25 rfl (by kernel_rfl)) rfl ?_
       exact ⟨rfl, below_alloc (below_alloc (Below.refl _ _) _) _⟩
     · have t3 : decide (fr ≤ 1048576) = false := decide_eq_false h2
       have u3 : (fr ≤ 1048576) = False := eq_false h2
       have hq : fitFr fr = fr := if_neg (fun h => h2 h.2)
       rw [hq]
       clear hq h1 h2
       go_enter Tryz.func11, Tryz.ntmps11
       go_wp2_with fail
       have hp : ((w.alloc (.cells #[.slice cA nC cc, .slice dA nD dc, .slice rA nR rc, .slice sA nS sc, .int .i64 fr, .int .i64 2000] 25)).alloc (.cells #[.slice cA nC cc, .slice dA nD dc, .slice rA nR rc, .slice sA nS sc, .int .i64 fr, .int .i64 2000] 25)).heap[w.heap.size + 1]? = some (.cells #[.slice cA nC cc, .slice dA nD dc, .slice rA nR rc, .slice sA nS sc, .int .i64 fr, .int .i64 2000] 25) := by
        have h := blk_new (w.alloc (.cells #[.slice cA nC cc, .slice dA nD dc, .slice rA nR rc, .slice sA nS sc, .int .i64 fr, .int .i64 2000] 25)) (.cells #[.slice cA nC cc, .slice dA nD dc, .slice rA nR rc, .slice sA nS sc, .int .i64 fr, .int .i64 2000] 25)
        rw [World.size_alloc] at h
        exact h
       refine bodyPost_ret (results_c (fn := Tryz.f11) (p := 2) (ty := 25) rfl _ _ (w.heap.size + 1) 25 #[.slice cA nC cc, .slice dA nD dc, .slice rA nR rc, .slice sA nS sc, .int .i64 fr, .int .i64 2000] (0, 0) _ rfl hp Tryz.underlying25 rfl (by kernel_rfl)) rfl ?_
       exact ⟨rfl, below_alloc (below_alloc (Below.refl _ _) _) _⟩
   · have t2 : decide (fr > 65536) = false := decide_eq_false h1
     have u2 : (65536 < fr) = False := eq_false h1
     have hq : fitFr fr = fr := if_neg (fun h => h1 h.1)
     rw [hq]
     clear hq h1
     go_enter Tryz.func11, Tryz.ntmps11
     go_wp2_with fail
     have hp : ((w.alloc (.cells #[.slice cA nC cc, .slice dA nD dc, .slice rA nR rc, .slice sA nS sc, .int .i64 fr, .int .i64 2000] 25)).alloc (.cells #[.slice cA nC cc, .slice dA nD dc, .slice rA nR rc, .slice sA nS sc, .int .i64 fr, .int .i64 2000] 25)).heap[w.heap.size + 1]? = some (.cells #[.slice cA nC cc, .slice dA nD dc, .slice rA nR rc, .slice sA nS sc, .int .i64 fr, .int .i64 2000] 25) := by
      have h := blk_new (w.alloc (.cells #[.slice cA nC cc, .slice dA nD dc, .slice rA nR rc, .slice sA nS sc, .int .i64 fr, .int .i64 2000] 25)) (.cells #[.slice cA nC cc, .slice dA nD dc, .slice rA nR rc, .slice sA nS sc, .int .i64 fr, .int .i64 2000] 25)
      rw [World.size_alloc] at h
      exact h
     refine bodyPost_ret (results_c (fn := Tryz.f11) (p := 2) (ty := 25) rfl _ _ (w.heap.size + 1) 25 #[.slice cA nC cc, .slice dA nD dc, .slice rA nR rc, .slice sA nS sc, .int .i64 fr, .int .i64 2000] (0, 0) _ rfl hp Tryz.underlying25 rfl (by kernel_rfl)) rfl ?_
     exact ⟨rfl, below_alloc (below_alloc (Below.refl _ _) _) _⟩
 · have t1 : decide (fu > 2000) = false := decide_eq_false hfu
   have u1 : (2000 < fu) = False := eq_false hfu
   have hq : fitFu fu = fu := if_neg hfu
   rw [hq]
   clear hq hfu
   by_cases h1 : 65536 < fr
   · have t2 : decide (fr > 65536) = true := decide_eq_true h1
     have u2 : (65536 < fr) = True := eq_true h1
     by_cases h2 : fr ≤ 1048576
     · have t3 : decide (fr ≤ 1048576) = true := decide_eq_true h2
       have u3 : (fr ≤ 1048576) = True := eq_true h2
       have hq : fitFr fr = Int.tmod fr 65536 := if_pos ⟨h1, h2⟩
       rw [hq]
       clear hq h1 h2
       go_enter Tryz.func11, Tryz.ntmps11
       go_wp2_with fail
       have hp : ((w.alloc (.cells #[.slice cA nC cc, .slice dA nD dc, .slice rA nR rc, .slice sA nS sc, .int .i64 (Int.tmod fr 65536), .int .i64 fu] 25)).alloc (.cells #[.slice cA nC cc, .slice dA nD dc, .slice rA nR rc, .slice sA nS sc, .int .i64 (Int.tmod fr 65536), .int .i64 fu] 25)).heap[w.heap.size + 1]? = some (.cells #[.slice cA nC cc, .slice dA nD dc, .slice rA nR rc, .slice sA nS sc, .int .i64 (Int.tmod fr 65536), .int .i64 fu] 25) := by
        have h := blk_new (w.alloc (.cells #[.slice cA nC cc, .slice dA nD dc, .slice rA nR rc, .slice sA nS sc, .int .i64 (Int.tmod fr 65536), .int .i64 fu] 25)) (.cells #[.slice cA nC cc, .slice dA nD dc, .slice rA nR rc, .slice sA nS sc, .int .i64 (Int.tmod fr 65536), .int .i64 fu] 25)
        rw [World.size_alloc] at h
        exact h
       refine bodyPost_ret (results_c (fn := Tryz.f11) (p := 2) (ty := 25) rfl _ _ (w.heap.size + 1) 25 #[.slice cA nC cc, .slice dA nD dc, .slice rA nR rc, .slice sA nS sc, .int .i64 (Int.tmod fr 65536), .int .i64 fu] (0, 0) _ rfl hp Tryz.underlying25 rfl (by kernel_rfl)) rfl ?_
       exact ⟨rfl, below_alloc (below_alloc (Below.refl _ _) _) _⟩
     · have t3 : decide (fr ≤ 1048576) = false := decide_eq_false h2
       have u3 : (fr ≤ 1048576) = False := eq_false h2
       have hq : fitFr fr = fr := if_neg (fun h => h2 h.2)
       rw [hq]
       clear hq h1 h2
       go_enter Tryz.func11, Tryz.ntmps11
       go_wp2_with fail
       have hp : ((w.alloc (.cells #[.slice cA nC cc, .slice dA nD dc, .slice rA nR rc, .slice sA nS sc, .int .i64 fr, .int .i64 fu] 25)).alloc (.cells #[.slice cA nC cc, .slice dA nD dc, .slice rA nR rc, .slice sA nS sc, .int .i64 fr, .int .i64 fu] 25)).heap[w.heap.size + 1]? = some (.cells #[.slice cA nC cc, .slice dA nD dc, .slice rA nR rc, .slice sA nS sc, .int .i64 fr, .int .i64 fu] 25) := by
        have h := blk_new (w.alloc (.cells #[.slice cA nC cc, .slice dA nD dc, .slice rA nR rc, .slice sA nS sc, .int .i64 fr, .int .i64 fu] 25)) (.cells #[.slice cA nC cc, .slice dA nD dc, .slice rA nR rc, .slice sA nS sc, .int .i64 fr, .int .i64 fu] 25)
        rw [World.size_alloc] at h
        exact h
       refine bodyPost_ret (results_c (fn := Tryz.f11) (p := 2) (ty := 25) rfl _ _ (w.heap.size + 1) 25 #[.slice cA nC cc, .slice dA nD dc, .slice rA nR rc, .slice sA nS sc, .int .i64 fr, .int .i64 fu] (0, 0) _ rfl hp Tryz.underlying25 rfl (by kernel_rfl)) rfl ?_
       exact ⟨rfl, below_alloc (below_alloc (Below.refl _ _) _) _⟩
   · have t2 : decide (fr > 65536) = false := decide_eq_false h1
     have u2 : (65536 < fr) = False := eq_false h1
     have hq : fitFr fr = fr := if_neg (fun h => h1 h.1)
     rw [hq]
     clear hq h1
     go_enter Tryz.func11, Tryz.ntmps11
     go_wp2_with fail
     have hp : ((w.alloc (.cells #[.slice cA nC cc, .slice dA nD dc, .slice rA nR rc, .slice sA nS sc, .int .i64 fr, .int .i64 fu] 25)).alloc (.cells #[.slice cA nC cc, .slice dA nD dc, .slice rA nR rc, .slice sA nS sc, .int .i64 fr, .int .i64 fu] 25)).heap[w.heap.size + 1]? = some (.cells #[.slice cA nC cc, .slice dA nD dc, .slice rA nR rc, .slice sA nS sc, .int .i64 fr, .int .i64 fu] 25) := by
      have h := blk_new (w.alloc (.cells #[.slice cA nC cc, .slice dA nD dc, .slice rA nR rc, .slice sA nS sc, .int .i64 fr, .int .i64 fu] 25)) (.cells #[.slice cA nC cc, .slice dA nD dc, .slice rA nR rc, .slice sA nS sc, .int .i64 fr, .int .i64 fu] 25)
      rw [World.size_alloc] at h
      exact h
     refine bodyPost_ret (results_c (fn := Tryz.f11) (p := 2) (ty := 25) rfl _ _ (w.heap.size + 1) 25 #[.slice cA nC cc, .slice dA nD dc, .slice rA nR rc, .slice sA nS sc, .int .i64 fr, .int .i64 fu] (0, 0) _ rfl hp Tryz.underlying25 rfl (by kernel_rfl)) rfl ?_
     exact ⟨rfl, below_alloc (below_alloc (Below.refl _ _) _) _⟩
end Go.Proofs.YtcgkgaibomcheaaGreat.Fit
end
section
namespace Go.Proofs.YtcgkgaibomcheaaGreat.EndsL
open Go.RowKit Bits Mac Mb Rd RDec EM EOut NewM Go.Proofs.YtcgkgaibomcheaaGreat.Pure Goes Fit PRvemuRuns YtcgkgaibomcheaaGreatW.PrintWords YtcgkgaibomcheaaGreatW.PrintLast YtcgkgaibomcheaaGreatW.PrintMore
attribute [local go_sem] max2_int min2_int max_two min_two
structure EnvAt (W : World) (cA dA rA sA : Option Addr) (cc dc rc sc : Nat) (lc ld ls lr : List Int) : Prop where
 hc : (Kd.int .u8).C W cA lc.length lc
 hcc : lc.length ≤ cc
 hlc : lc.length ≤ 140737488355328
 hd : (Kd.int .u8).C W dA ld.length ld
 hdc : ld.length ≤ dc
 hr : (Kd.int .u64).C W rA lr.length lr
 hrc : lr.length ≤ rc
 hs : (Kd.int .u8).C W sA ls.length ls
 hsc : ls.length ≤ sc
 bc : isBytes lc
 bd : isBytes ld
 bs : isBytes ls
 wr : isWords lr
theorem EnvAt.below {W W' : World} {cA dA rA sA : Option Addr} {cc dc rc sc : Nat} {lc ld ls lr : List Int} (h : EnvAt W cA dA rA sA cc dc rc sc lc ld ls lr) (hb : Below W.heap.size W W') : EnvAt W' cA dA rA sA cc dc rc sc lc ld ls lr :=
 ⟨Kd.C_below h.hc hb, h.hcc, h.hlc, Kd.C_below h.hd hb, h.hdc, Kd.C_below h.hr hb, h.hrc, Kd.C_below h.hs hb, h.hsc, h.bc, h.bd, h.bs, h.wr⟩
theorem fitFu_le (fu : Int) : fitFu fu ≤ 1000000 := by unfold fitFu; split <;> omega
end Go.Proofs.YtcgkgaibomcheaaGreat.EndsL
end
section
namespace Go.Proofs.YtcgkgaibomcheaaGreat.OpenEnv
open Go.ChangeShapes Go.WideShapes Go.RowKit Go.Deep Go.Joins YtcgkgaibomcheaaGreatW.PrintWords
theorem slice_cell {α : Type} {d : Kd α} {H : Type} {enc : TypeId × Value → H} {P : Program} {W : World} {t e : TypeId} {v : Value} {D : DataW H} {p : List MemPlace}
 {ts : List TypeId} {ds : List (DataW H)} {j : Nat} (good : α → Prop)
 (hsz : (DataW.weightsEach P ts ds).all (· ≤ reachBytes) = true) (hts : ts[j]? = some t) (hds : ds[j]? = some D)
 (ht : P.underlying t = some (.slice e)) (hC : P.cellsOf e = d.sz)
 (el : ∀ (fuel : Nat) (cs : List Value) (x : DataW H × List MemPlace), DataW.trod enc P W 0 (fun _ => true) true fuel e cs = some x → ∃ y, d.K W y cs ∧ good y)
 {fuel : Nat} (hf : DataW.trod enc P W 0 (fun _ => true) true fuel t [v] = some (D, p)) :
 ∃ (A : Option Addr) (cap : Nat) (xs : List α), v = .slice A xs.length cap ∧ xs.length ≤ cap ∧ cap ≤ maxLen ∧ cap * P.bytesOf e ≤ reachBytes ∧ d.C W A xs.length xs ∧ (∀ x ∈ xs, good x) := by
 rcases open_slice ht hf with ⟨hcs, hx⟩ | ⟨a, len0, cap0, m, n, Df, Pl, hcs, hb, hl, hm, hmm, hx, hel⟩
 · obtain rfl : v = _ := (List.cons.inj hcs).1
   exact ⟨none, 0, [], rfl, Nat.le_refl _, by unfold maxLen; omega, by simp, Kd.C_nil d W, by simp⟩
 · obtain rfl : v = _ := (List.cons.inj hcs).1
   simp only [if_true] at hmm
   subst hmm
   have ex : ∀ i : Fin len0, ∃ y, good y ∧ ∃ cs', W.cells? 0 (a.add (i.1 * P.cellsOf e)) (P.cellsOf e) = some cs' ∧ d.K W y cs' := by
    intro i
    obtain ⟨cs', hc, htr⟩ := hel i.1 (by have := i.2; omega)
    obtain ⟨y, hk, hg⟩ := el _ _ _ htr
    exact ⟨y, hg, cs', hc, hk⟩
   have hD : D = .slice ((List.range len0).map Df) ((List.range (m - len0)).map fun j => Df (len0 + j)) := (Prod.mk.inj hx).1
   have hz := sized_slice hsz hts (by rw [hds, hD]) ht
   refine ⟨some a, m, List.ofFn fun i => Classical.choose (ex i), by simp, by simpa using hl, hm, ?_, ?_, ?_⟩
   · have e1 : ((List.range len0).map Df).length + ((List.range (m - len0)).map fun j => Df (len0 + j)).length = m := by simp; omega
     rwa [e1] at hz
   · refine ⟨by simp, by simp; unfold maxLen at hm; omega, fun _ => ⟨a, rfl, fun j q hj => ?_⟩⟩
     obtain ⟨hjl, hjq⟩ := List.getElem?_eq_some_iff.1 hj
     have hjl' : j < len0 := by simpa using hjl
     rw [List.getElem_ofFn] at hjq
     obtain ⟨_, cs', hc, hk⟩ := Classical.choose_spec (ex ⟨j, hjl'⟩)
     subst hjq
     obtain ⟨_, hcl, hat⟩ := World.cells?_some hc
     refine ⟨cs', by rw [hcl, hC], hk, fun i u hi => ?_⟩
     have hil : i < P.cellsOf e := by
      rw [← hcl]
      exact (List.getElem?_eq_some_iff.1 hi).1
     rw [← hC, ← Go.Deep.add_add, hat i hil, hi]
   · intro x hx
     obtain ⟨i, hi⟩ := (List.mem_ofFn).1 hx
     rw [← hi]
     exact (Classical.choose_spec (ex i)).1
open Bits NewM EndsL
theorem byte_elem {H : Type} {enc : TypeId × Value → H} {W : World} (fuel : Nat) (cs : List Value) (x : DataW H × List MemPlace) (h : DataW.trod enc Tryz.prog W 0 (fun _ => true) true fuel 5 cs = some x) :
 ∃ y, (Kd.int .u8).K W y cs ∧ (0 ≤ y ∧ y < 256) := by
 obtain ⟨n, rfl, _, hw⟩ := DataW.trod_int Tryz.underlying5 h
 refine ⟨n, rfl, ?_⟩
 have h' : 0 ≤ n ∧ n ≤ 255 := by simpa [Lit.wf, IntKind.min, IntKind.max, IntKind.bits, IntKind.signed] using hw
 omega
theorem word_elem {H : Type} {enc : TypeId × Value → H} {W : World} (fuel : Nat) (cs : List Value) (x : DataW H × List MemPlace) (h : DataW.trod enc Tryz.prog W 0 (fun _ => true) true fuel 52 cs = some x) :
 ∃ y, (Kd.int .u64).K W y cs ∧ (0 ≤ y ∧ y < 18446744073709551616) := by
 obtain ⟨n, rfl, _, hw⟩ := DataW.trod_int Tryz.underlying52 h
 refine ⟨n, rfl, ?_⟩
 have h' : 0 ≤ n ∧ n ≤ 18446744073709551615 := by simpa [Lit.wf, IntKind.min, IntKind.max, IntKind.bits, IntKind.signed] using hw
 omega
set_option maxRecDepth 100000 in
theorem open_env {H : Type} {enc : TypeId × Value → H} {W : World} {v : Value} {D : DataW H} {p : List MemPlace} {r : Reach} (ho : Value.okWide Tryz.prog W r 0 25 v) (h : DataW.Trod enc Tryz.prog W 0 (fun _ => true) true 25 v D p) (hw : (D.weights Tryz.prog 25).all (· ≤ reachBytes) = true) :
 ∃ (cA dA rA sA : Option Addr) (cc dc rc sc : Nat) (lc ld ls lr : List Int) (fr fu : Int), v = .agg #[.slice cA lc.length cc, .slice dA ld.length dc, .slice rA lr.length rc, .slice sA ls.length sc, .int .i64 fr, .int .i64 fu] ∧ EnvAt W cA dA rA sA cc dc rc sc lc ld ls lr ∧ cc ≤ reachBytes ∧ dc ≤ reachBytes ∧ rc * 8 ≤ reachBytes ∧ sc ≤ reachBytes ∧ (Lit.int .i64 fr).wf = true ∧ (Lit.int .i64 fu).wf = true := by
 have c25 : Tryz.prog.cellsOf 25 = 6 := by kernel_rfl
 have c22 : Tryz.prog.cellsOf 22 = 1 := by kernel_rfl
 have c23 : Tryz.prog.cellsOf 23 = 1 := by kernel_rfl
 have c3 : Tryz.prog.cellsOf 3 = 1 := by kernel_rfl
 have b5 : Tryz.prog.bytesOf 5 = 1 := by kernel_rfl
 have b52 : Tryz.prog.bytesOf 52 = 8 := by kernel_rfl
 obtain ⟨cs, rfl, hsz⟩ := okWide_struct Tryz.underlying25 ho
 obtain ⟨l⟩ := cs
 have hl : l.length = 6 := by rw [c25] at hsz; simpa using hsz
 obtain ⟨fuel, hf⟩ := h
 obtain ⟨xs, n, _, hD, _, hxl, hg⟩ := DataW.trod_struct Tryz.underlying25 hf
 match l, hl with
 | [v0, v1, v2, v3, v4, v5], _ =>
  have hx : xs.length = 6 := hxl
  match xs, hx with
  | [x0, x1, x2, x3, x4, x5], _ =>
   have hD1 : D = .agg [x0.1, x1.1, x2.1, x3.1, x4.1, x5.1] := congrArg Prod.fst hD
   have hw2 : (DataW.weightsEach Tryz.prog [22, 22, 23, 22, 3, 3] [x0.1, x1.1, x2.1, x3.1, x4.1, x5.1]).all (· ≤ reachBytes) = true := by
    rw [hD1] at hw
    simp only [DataW.weights, Tryz.underlying25] at hw
    exact hw
   have g0 : DataW.trod enc Tryz.prog W 0 (fun _ => true) true n 22 [v0] = some x0 := by
    have t : DataW.trod enc Tryz.prog W 0 (fun _ => true) true n 22 (List.take (Tryz.prog.cellsOf 22) (List.drop 0 [v0, v1, v2, v3, v4, v5])) = some x0 := hg 0 _ rfl
    rw [c22] at t
    exact t
   have g1 : DataW.trod enc Tryz.prog W 0 (fun _ => true) true n 22 [v1] = some x1 := by
    have t : DataW.trod enc Tryz.prog W 0 (fun _ => true) true n 22 (List.take (Tryz.prog.cellsOf 22) (List.drop 1 [v0, v1, v2, v3, v4, v5])) = some x1 := hg 1 _ rfl
    rw [c22] at t
    exact t
   have g2 : DataW.trod enc Tryz.prog W 0 (fun _ => true) true n 23 [v2] = some x2 := by
    have t : DataW.trod enc Tryz.prog W 0 (fun _ => true) true n 23 (List.take (Tryz.prog.cellsOf 23) (List.drop 2 [v0, v1, v2, v3, v4, v5])) = some x2 := hg 2 _ rfl
    rw [c23] at t
    exact t
   have g3 : DataW.trod enc Tryz.prog W 0 (fun _ => true) true n 22 [v3] = some x3 := by
    have t : DataW.trod enc Tryz.prog W 0 (fun _ => true) true n 22 (List.take (Tryz.prog.cellsOf 22) (List.drop 3 [v0, v1, v2, v3, v4, v5])) = some x3 := hg 3 _ rfl
    rw [c22] at t
    exact t
   have g4 : DataW.trod enc Tryz.prog W 0 (fun _ => true) true n 3 [v4] = some x4 := by
    have t : DataW.trod enc Tryz.prog W 0 (fun _ => true) true n 3 (List.take (Tryz.prog.cellsOf 3) (List.drop 4 [v0, v1, v2, v3, v4, v5])) = some x4 := hg 4 _ rfl
    rw [c3] at t
    exact t
   have g5 : DataW.trod enc Tryz.prog W 0 (fun _ => true) true n 3 [v5] = some x5 := by
    have t : DataW.trod enc Tryz.prog W 0 (fun _ => true) true n 3 (List.take (Tryz.prog.cellsOf 3) (List.drop 5 [v0, v1, v2, v3, v4, v5])) = some x5 := hg 5 _ rfl
    rw [c3] at t
    exact t
   obtain ⟨cA, cc, lc, rfl, a1, _, a2, a3, a4⟩ := slice_cell (d := Kd.int .u8) (fun x => 0 ≤ x ∧ x < 256) hw2 (j := 0) rfl rfl Tryz.underlying22 (by kernel_rfl) byte_elem g0
   obtain ⟨dA, dc, ld, rfl, b1, _, b2, b3, b4⟩ := slice_cell (d := Kd.int .u8) (fun x => 0 ≤ x ∧ x < 256) hw2 (j := 1) rfl rfl Tryz.underlying22 (by kernel_rfl) byte_elem g1
   obtain ⟨rA, rc, lr, rfl, e1, _, e2, e3, e4⟩ := slice_cell (d := Kd.int .u64) (fun x => 0 ≤ x ∧ x < 18446744073709551616) hw2 (j := 2) rfl rfl Tryz.underlying23 (by kernel_rfl) word_elem g2
   obtain ⟨sA, sc, ls, rfl, f1, _, f2, f3, f4⟩ := slice_cell (d := Kd.int .u8) (fun x => 0 ≤ x ∧ x < 256) hw2 (j := 3) rfl rfl Tryz.underlying22 (by kernel_rfl) byte_elem g3
   obtain ⟨fr, rfl, w4⟩ := Args.int_cell Tryz.underlying3 g4
   obtain ⟨fu, rfl, w5⟩ := Args.int_cell Tryz.underlying3 g5
   rw [b5, Nat.mul_one] at a2 b2 f2
   rw [b52] at e2
   have hrb : reachBytes = 140737488351232 := rfl
   exact ⟨cA, dA, rA, sA, cc, dc, rc, sc, lc, ld, ls, lr, fr, fu, rfl, ⟨a3, a1, by omega, b3, b1, e3, e1, f3, f1, a4, b4, f4, e4⟩, a2, b2, e2, f2, w4, w5⟩
end Go.Proofs.YtcgkgaibomcheaaGreat.OpenEnv
end
section
namespace Go.Proofs.YtcgkgaibomcheaaGreat.OpenRv
open Go.ChangeShapes Go.WideShapes Go.RowKit Go.Deep Go.Joins PRvemuRuns YtcgkgaibomcheaaGreatW.PrintWords
def Rv64 (x : S42) : Prop := (-9223372036854775808 ≤ x.f0 ∧ x.f0 ≤ 9223372036854775807)
theorem elem {H : Type} {enc : TypeId × Value → H} {W : World} (fuel : Nat) (cs : List Value) (x : DataW H × List MemPlace) (h : DataW.trod enc Tryz.prog W 0 (fun _ => true) true fuel 42 cs = some x) :
 ∃ y : S42, k42.K W y cs ∧ Rv64 y := by
 obtain ⟨hlen, hf⟩ := Args.struct_cells Tryz.underlying42 (by kernel_rfl) (by kernel_rfl) h
 obtain ⟨u0, y0, n0, e0, t0⟩ := hf 0 _ rfl
 obtain ⟨u1, y1, n1, e1, t1⟩ := hf 1 _ rfl
 obtain ⟨u2, y2, n2, e2, t2⟩ := hf 2 _ rfl
 obtain ⟨u3, y3, n3, e3, t3⟩ := hf 3 _ rfl
 obtain ⟨u4, y4, n4, e4, t4⟩ := hf 4 _ rfl
 obtain ⟨a0, rfl, w0⟩ := Args.int_cell Tryz.underlying40 t0
 obtain ⟨a1, rfl, w1⟩ := Args.int_cell Tryz.underlying3 t1
 obtain ⟨a2, rfl, w2⟩ := Args.int_cell Tryz.underlying3 t2
 obtain ⟨a3, rfl, w3⟩ := Args.int_cell Tryz.underlying3 t3
 obtain ⟨a4, rfl, w4⟩ := Args.int_cell Tryz.underlying3 t4
 have hcs : cs = [.int .i64 a0, .int .i64 a1, .int .i64 a2, .int .i64 a3, .int .i64 a4] := by
  match cs, hlen with
  | [c0, c1, c2, c3, c4], _ => simp_all
 have h' : -9223372036854775808 ≤ a0 ∧ a0 ≤ 9223372036854775807 := by simpa [Lit.wf, IntKind.min, IntKind.max, IntKind.bits, IntKind.signed] using w0
 refine ⟨⟨a0, a1, a2, a3, a4⟩, ?_, h'⟩
 rw [hcs]
 exact k42_mk W _
set_option maxRecDepth 100000 in
theorem open_list {H : Type} {enc : TypeId × Value → H} {W : World} {v : Value} {D : DataW H} {p : List MemPlace} {ts : List TypeId} {ds : List (DataW H)} (hsz : (DataW.weightsEach Tryz.prog ts ds).all (· ≤ reachBytes) = true) {j : Nat} (hts : ts[j]? = some 36) (hds : ds[j]? = some D) (o : Value.okWide Tryz.prog W .any 0 36 v) (h : DataW.Trod enc Tryz.prog W 0 (fun _ => true) true 36 v D p) :
 ∃ (A : Option Addr) (cap : Nat) (l : List S42), v = .slice A l.length cap ∧ l.length ≤ cap ∧ l.length * 40 ≤ 140737488351232 ∧ k42.C W A l.length l ∧ (∀ x ∈ l, Rv64 x) := by
 obtain ⟨A, cap, xs, rfl, hl, _, hz, hr, hg⟩ := Args.slice_reads (d := k42) Rv64 hsz hts hds Tryz.underlying36 (by kernel_rfl) elem o h
 have hz' : cap * 40 ≤ reachBytes := hz
 have hrb : reachBytes = 140737488351232 := rfl
 exact ⟨A, cap, xs, rfl, hl, by omega, hr, hg⟩
end Go.Proofs.YtcgkgaibomcheaaGreat.OpenRv
end
section
namespace Go.Proofs.YtcgkgaibomcheaaGreat.FineP
open Go.RowKit Bits Dec Find Enc PRvemuRuns YtcgkgaibomcheaaGreatW.PrintWords YtcgkgaibomcheaaGreatW.PrintLast YtcgkgaibomcheaaGreatW.PrintMore
def encV (x : S42) : Nat × Int :=
 if 1 ≤ x.f0 ∧ x.f0 ≤ 34 then (if regsOk x.f0.toNat x.f1 x.f2 x.f3 = true then (if fits (formOf x.f0.toNat) x.f4 = true then (encW x.f0.toNat x.f1 x.f2 x.f3 x.f4, 0) else (0, 152)) else (0, 151)) else (0, 153)
theorem rowsL_len : rowsL.length = 34 := by decide +kernel
theorem rowsL_op : ∀ i : Fin 34, 1 ≤ (rowsL.getD i.1 z59).f0 ∧ (rowsL.getD i.1 z59).f0 ≤ 34 := by decide +kernel
theorem find_l0 (v : Int) (hv : ¬ (1 ≤ v ∧ v ≤ 34)) : ∀ (j : Nat) (k : Nat) (i : Nat), i + j = 34 → j < k → ravelinref15_Find.l0 k v rowsL (i : Int) = some (0, 0, 0, 0, 0, (⟨#[]⟩ : ByteArray), false)
 | 0, k + 1, i, hi, _ => by
  obtain rfl : i = 34 := by omega
  unfold ravelinref15_Find.l0
  rw [if_neg (by rw [rowsL_len]; omega)]
 | j + 1, k + 1, i, hi, hk => by
  have ho := rowsL_op ⟨i, by omega⟩
  unfold ravelinref15_Find.l0
  rw [if_pos (by rw [rowsL_len]; omega), if_pos (by omega)]
  have e : rd_T59 rowsL (i : Int) = rowsL.getD i z59 := rfl
  rw [e, if_neg (by intro h; rw [h] at ho; exact hv ho)]
  have ew : wrap64 ((i : Int) + 1) = ((i + 1 : Nat) : Int) := by
   unfold wrap64
   omega
  rw [ew]
  exact find_l0 v hv j k (i + 1) (by omega) (by omega)
theorem find_no (k : Nat) (hk : 40 ≤ k) (v : Int) (hv : ¬ (1 ≤ v ∧ v ≤ 34)) : ravelinref15_Find.f k v = some (0, 0, 0, 0, 0, (⟨#[]⟩ : ByteArray), false) := find_l0 v hv 34 k 0 rfl (by omega)
theorem enc_all (k : Nat) (hk : 100 ≤ k) (x : S42) : ravelinref15_Encode.f k x.f0 x.f1 x.f2 x.f3 x.f4 = some (((encV x).1 : Int), (encV x).2) := by
 unfold encV
 by_cases h : 1 ≤ x.f0 ∧ x.f0 ≤ 34
 · rw [if_pos h]
   have e : x.f0 = ((x.f0.toNat : Nat) : Int) := by omega
   have h' := enc_eq k hk x.f0.toNat (by omega) (by omega) x.f1 x.f2 x.f3 x.f4
   rw [← e] at h'
   rw [h']
   split
   · split <;> rfl
   · rfl
 · rw [if_neg h]
   unfold ravelinref15_Encode.f
   rw [find_no _ (by omega) _ h]
   rfl
def okV (x : S42) : Bool := (encV x).2 == 0
theorem okV_eq {x : S42} (h : okV x = true) : (encV x).2 = 0 := beq_iff_eq.1 h
def code4 (x : S42) : List Int := [((encV x).1 : Int) % 256, ((encV x).1 : Int) / 256 % 256, ((encV x).1 : Int) / 65536 % 256, ((encV x).1 : Int) / 16777216 % 256]
def codeL (l : List S42) : List Int := l.flatMap code4
theorem codeL_len (l : List S42) : (codeL l).length = 4 * l.length := by
 induction l with
 | nil => rfl
 | cons x l ih =>
  have e : codeL (x :: l) = code4 x ++ codeL l := rfl
  rw [e, List.length_append, ih, List.length_cons]
  show 4 + _ = _
  omega
theorem codeL_bytes (l : List S42) : isBytes (codeL l) := by
 intro b hb
 obtain ⟨x, _, hx⟩ := List.mem_flatMap.1 hb
 unfold code4 at hx
 simp only [List.mem_cons, List.not_mem_nil, or_false] at hx
 rcases hx with rfl | rfl | rfl | rfl <;> omega
theorem bytes_l0 (l : List S42) (hl : ∀ x ∈ l, okV x = true) (hn : 4 * l.length < 140737488355328) : ∀ (j : Nat) (k : Nat) (i : Nat), i + j = l.length → j + 101 ≤ k → ravelinref15_Bytes.l0 k l (codeL (l.take i)) (i : Int) = some (codeL l, 0, 0)
 | 0, k + 1, i, hi, _ => by
  obtain rfl : i = l.length := by omega
  unfold ravelinref15_Bytes.l0
  rw [if_neg (by omega), List.take_length]
 | j + 1, k + 1, i, hi, hk => by
  unfold ravelinref15_Bytes.l0
  have hil : i < l.length := by omega
  rw [if_pos (by omega), if_pos (by omega)]
  have e : rd_T42 l (i : Int) = l[i] := by
   show l.getD i z42 = _
   rw [List.getD_eq_getElem?_getD, List.getElem?_eq_getElem hil]
   rfl
  rw [e, enc_all k (by omega)]
  have h0 := okV_eq (hl _ (List.getElem_mem hil))
  simp only [Option.bind_some]
  rw [if_pos h0]
  have eq : codeL (l.take i) ++ code4 l[i] = codeL (l.take (i + 1)) := by
   rw [List.take_succ_eq_append_getElem hil]
   unfold codeL
   rw [List.flatMap_append]
   rfl
  have ew : wrap64 ((i : Int) + 1) = ((i + 1 : Nat) : Int) := by
   unfold wrap64
   omega
  have hlen : (codeL (l.take i)).length = 4 * i := by rw [codeL_len, List.length_take]; omega
  show (if (codeL (l.take i)).length + (code4 l[i]).length < 140737488355328 then _ else none) = _
  rw [hlen, if_pos (by show 4 * i + 4 < _; omega)]
  show ravelinref15_Bytes.l0 k l (codeL (l.take i) ++ code4 l[i]) _ = _
  rw [eq, ew]
  exact bytes_l0 l hl hn j k (i + 1) (by omega) (by omega)
theorem bytes_eq (l : List S42) (hl : ∀ x ∈ l, okV x = true) (hn : 4 * l.length < 140737488355328) : ravelinref15_Bytes.f (l.length + 101) l = some (codeL l, 0, 0) := bytes_l0 l hl hn l.length _ 0 (by omega) (by omega)
end Go.Proofs.YtcgkgaibomcheaaGreat.FineP
end
section
namespace Go.Proofs.YtcgkgaibomcheaaGreat.Conf
open Go.RowKit Bits Mac Mb Rd RDec RLoad Go.Proofs.YtcgkgaibomcheaaGreat.Pure PRvemuRuns YtcgkgaibomcheaaGreatW.PrintWords YtcgkgaibomcheaaGreatW.PrintLast YtcgkgaibomcheaaGreatW.PrintMore
theorem max2_mx (k k' : IntKind) (x y : Int) : Builtin.max2 (.int k x) (.int k' y) = pure (.int k (mx x y)) := max2_int k k' x y
attribute [local go_sem] max2_mx max_two
end Go.Proofs.YtcgkgaibomcheaaGreat.Conf
end
section
namespace Go.Proofs.YtcgkgaibomcheaaGreat.AccessL
open Go.RowKit Bits Mac Mb Rd RDec EM EOut NewM Go.Proofs.YtcgkgaibomcheaaGreat.Pure Goes Fit FineP Conf EndsL PRvemuRuns YtcgkgaibomcheaaGreatW.PrintWords YtcgkgaibomcheaaGreatW.PrintLast YtcgkgaibomcheaaGreatW.PrintMore
attribute [local go_sem] max2_int min2_int max_two min_two
theorem inf42 : (Tryz.prog.info? 42).map (fun i => (i.zero, i.size, i.bytes)) = some (some (.agg #[.int .i64 0, .int .i64 0, .int .i64 0, .int .i64 0, .int .i64 0]), 5, 40) := by kernel_rfl
theorem take_yes (l : List S42) (i : Nat) (hi : i < l.length) (h : okV (rd_T42 l (i : Int)) = true) : (l.take (i + 1)).filter okV = (l.take i).filter okV ++ [rd_T42 l (i : Int)] := by
 have e : rd_T42 l (i : Int) = l[i] := by
  show l.getD i z42 = _
  rw [List.getD_eq_getElem?_getD, List.getElem?_eq_getElem hi]
  rfl
 rw [e] at h ⊢
 rw [List.take_succ_eq_append_getElem hi, List.filter_append, List.filter_cons_of_pos h]
 rfl
theorem take_no (l : List S42) (i : Nat) (hi : i < l.length) (h : okV (rd_T42 l (i : Int)) = false) : (l.take (i + 1)).filter okV = (l.take i).filter okV := by
 have e : rd_T42 l (i : Int) = l[i] := by
  show l.getD i z42 = _
  rw [List.getD_eq_getElem?_getD, List.getElem?_eq_getElem hi]
  rfl
 rw [e] at h
 rw [List.take_succ_eq_append_getElem hi, List.filter_append, List.filter_cons_of_neg (by rw [h]; decide), List.filter_nil, List.append_nil]
end Go.Proofs.YtcgkgaibomcheaaGreat.AccessL
end
