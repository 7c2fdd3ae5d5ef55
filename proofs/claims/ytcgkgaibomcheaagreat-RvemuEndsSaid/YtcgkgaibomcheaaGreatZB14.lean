/- Joined out of this claim's texts: EOut, ERun, Head, Fit, EndsL, OpenEnv, RowRvemuEnds, OpenRv, FineP. Conditions: those of each theorem. -/
import Derived.Test.YtcgkgaibomcheaaGreatZB13
import Derived.Test.YtcgkgaibomcheaaGreatZB09
import Derived.Test.YtcgkgaibomcheaaGreatZB06
import Derived.Test.YtcgkgaibomcheaaGreatZB12
import Derived.Test.YtcgkgaibomcheaaGreatZB02
import Derived.Test.YtcgkgaibomcheaaGreatRows
import Derived.WalkKit
import Derived.ProofKit
import Derived.OpenShut
import Derived.ShutString
import Derived.ChangeOld
import Derived.Below
import Derived.SizedLaws
import Derived.Lib.SmallJoins
import Derived.Deep.Slices
import Derived.Deep.Fields
import Derived.ChangeSame
section
/- The program's Outcome. Conditions: the machine's block is there. -/
namespace Go.Proofs.YtcgkgaibomcheaaGreat.EOut
open Go.RowKit Go.Proofs.YtcgkgaibomcheaaGreat.Bits Go.Proofs.YtcgkgaibomcheaaGreat.Mac Go.Proofs.YtcgkgaibomcheaaGreat.Mb Go.Proofs.YtcgkgaibomcheaaGreat.Rd Go.Proofs.YtcgkgaibomcheaaGreat.RDec Go.Proofs.YtcgkgaibomcheaaGreat.EM Go.Proofs.YtcgkgaibomcheaaGreat.PRvemuRuns Go.Proofs.YtcgkgaibomcheaaGreatW.PrintWords Go.Proofs.YtcgkgaibomcheaaGreatW.PrintLast Go.Proofs.YtcgkgaibomcheaaGreatW.PrintMore
set_option linter.unusedVariables false
set_option linter.unusedSimpArgs false

/-- The registers, the place that is told. -/
def regsOf (m : Mac) : List Int := (List.range 32).map fun i => U (m.x i)
def atOf (m : Mac) : Int := if m.err = 0 then 0 else Ends.place m.pc
theorem regs_len (m : Mac) : (regsOf m).length = 32 := by unfold regsOf; rw [List.length_map, List.length_range]
/-- The registers as they lie in the machine. -/
theorem regs_C {T n : Nat} {W : World} {g : Nat} {m : Mac} {c d f t q : Value} (h : MB T n W g (vals m c d f t q)) (hn : 35 ≤ n) : Kd.C (Kd.int .u64) W (some ⟨g, 3, none⟩) (regsOf m).length (regsOf m) := by
  refine ⟨rfl, by rw [regs_len]; omega, fun _ => ⟨_, rfl, fun j p hj => ⟨[.int .u64 p], rfl, rfl, fun i u hi => ?_⟩⟩⟩
  obtain ⟨hjl, hjp⟩ := List.getElem?_eq_some_iff.1 hj
  rw [regs_len] at hjl
  have hi0 : i = 0 := by
    have := (List.getElem?_eq_some_iff.1 hi).1
    simpa using this
  subst hi0
  have hu : u = .int .u64 p := by simpa using hi.symm
  subst hu
  have ea : (⟨g, 3, none⟩ : Addr).add (j * (Kd.int .u64).sz + 0) = ⟨g, 3 + j, none⟩ := by
    show (⟨g, 3, none⟩ : Addr).add (j * 1 + 0) = _
    simp [Addr.add]
  have hp : U (m.x j) = p := by
    unfold regsOf at hj
    rw [List.getElem?_map, List.getElem?_range hjl] at hj
    simpa using hj
  rw [ea, h.cell (3 + j) (by omega), vals_x _ _ _ _ _ _ _ hjl, hp]
theorem results_c {P : Program} {fn : Func} {p : Tmp} {ty : TypeId} (h : fn.results = #[.cell p ty]) (tmps : Array Value) (w : World) (g : Nat) (t : TypeId) (cs : Array Value) (fr : Nat × Nat) (d : TypeDesc)
    (hp : tmps.getD p undef = .pointer (some ⟨g, 0, none⟩)) (hg : w.heap[g]? = some (.cells cs t fr))
    (hu : P.underlying ty = some d) (hd : (match d with | .struct _ | .array _ _ => true | _ => false) = true) (hi : (P.info? ty).map (·.size) = some cs.size) :
    (results fn tmps).run P w = .ok (.agg cs) w := results_single h (.cell g t cs fr d hp hg hu hd hi .nil)
theorem R_put5 {α : Type} {d : Kd α} {e base : Nat} {ok : Nat → Prop} {w : World} {v : Value} {xs : List α} {g T : Nat} {cells : Array Value} (h : d.R e w base ok v xs) (hb : w.heap[g]? = some (.cells cells T (0, 0))) (ht : ∀ q, q ∈ e :: d.E → q ≠ T) (u0 u1 u2 u3 u4 : Value) : d.R e (put5 w g u0 u1 u2 u3 u4) base ok v xs :=
  Kd.R_mono (Kd.R_step (Kd.R_types h hb ht) (fun k hk _ => put5_far _ _ _ _ _ hk.2)) (fun k hk => hk.1)
set_option maxRecDepth 20000 in
set_option maxHeartbeats 2000000 in
theorem outcome (g : Nat) (m : Mac) (c d f t q : Value) (w : World) (h : MB 74 42 w g (vals m c d f t q)) (ht : TrAt w t m.tr) (hl : m.tr.length ≤ 1000000000) :
    Calls Tryz.prog 21 #[.pointer (some ⟨g, 0, none⟩)] w fun e w' => ∃ vr vt : Value, e = .returned (.agg #[.int .i64 m.err, .int .i64 (atOf m), .int .i64 m.steps, vr, vt]) ∧ Kd.R (Kd.int .u64) 52 w' w.heap.size (fun _ => True) vr (regsOf m) ∧ Kd.R k54 54 w' w.heap.size (fun _ => True) vt m.tr ∧ Below w.heap.size w w' := by
  obtain ⟨At, ct, rfl, hct, hC⟩ := Kd.R_reads ht
  have hbz := below_alloc (Below.refl w.heap.size w) (.cells #[.int .i64 0, .int .i64 0, .int .i64 0, .slice none 0 0, .slice none 0 0] 31)
  have HH := Aside0.mk (h.below hbz)
  have HCC := Aside0.mk (Kd.C_below hC hbz)
  have HOW := Aside0.mk (blk_new w (.cells #[.int .i64 0, .int .i64 0, .int .i64 0, .slice none 0 0, .slice none 0 0] 31))
  have HG := Aside0.mk h.lt
  have HB := Aside0.mk hbz
  clear h ht hC hbz
  have hle0 : w.heap.size ≤ (w.alloc (.cells #[.int .i64 0, .int .i64 0, .int .i64 0, .slice none 0 0, .slice none 0 0] 31)).heap.size := by rw [World.size_alloc]; omega
  have HSZ := Aside0.mk (show w.heap.size < (w.alloc (.cells #[.int .i64 0, .int .i64 0, .int .i64 0, .slice none 0 0, .slice none 0 0] 31)).heap.size from by rw [World.size_alloc]; omega)
  obtain ⟨W0, hW0⟩ : ∃ W0, w.alloc (.cells #[.int .i64 0, .int .i64 0, .int .i64 0, .slice none 0 0, .slice none 0 0] 31) = W0 := ⟨_, rfl⟩
  rw [hW0] at HH HCC HOW HB HSZ
  have HW0 := Aside0.mk hW0
  clear hW0 hle0
  have x39 : W0.cell? ⟨g, 39, none⟩ = some (.int .i64 m.err) := HH.out.cell 39 (by omega)
  have x37 : W0.cell? ⟨g, 37, none⟩ = some (.int .i64 m.steps) := HH.out.cell 37 (by omega)
  have x40 : W0.cell? ⟨g, 40, none⟩ = some (.slice At m.tr.length ct) := HH.out.cell 40 (by omega)
  have HGP := Aside0.mk (show ∀ pb : Nat, W0.heap.size ≤ pb → g ≠ pb from fun pb hp => by have := HG.out; have := HSZ.out; omega)
  have HCR := Aside0.mk (show ∀ W1, Below W0.heap.size W0 W1 → Calls Tryz.prog 37 #[.slice (some ⟨g, 3, none⟩) 32 32] W1 fun e w' => ∃ A1 c1, e = .returned (.slice A1 32 c1) ∧ Kd.R (Kd.int .u64) 52 w' W1.heap.size (fun _ => True) (.slice A1 32 c1) (regsOf m) ∧ Below W1.heap.size W1 w' from fun W1 hb => by
    have hc := Clone.clone37 (some ⟨g, 3, none⟩) 32 (regsOf m) W1 (regs_C (HH.out.below hb) (by omega)) (by rw [regs_len]; omega)
    rw [regs_len] at hc
    refine hc.mono fun e w' hh => ?_
    obtain ⟨v, he, hr, hb⟩ := hh
    obtain ⟨A1, c1, hv⟩ := Kd.R_slice hr
    rw [regs_len] at hv
    subst hv
    exact ⟨A1, c1, he, hr, hb⟩)
  have HCT := Aside0.mk (show ∀ W1, Below W0.heap.size W0 W1 → Calls Tryz.prog 38 #[.slice At m.tr.length ct] W1 fun e w' => ∃ A2 c2, e = .returned (.slice A2 m.tr.length c2) ∧ Kd.R k54 54 w' W1.heap.size (fun _ => True) (.slice A2 m.tr.length c2) m.tr ∧ Below W1.heap.size W1 w' from fun W1 hb => by
    refine (Clone.clone38 At ct m.tr W1 (Kd.C_below HCC.out hb) (by omega)).mono fun e w' hh => ?_
    obtain ⟨v, he, hr, hb⟩ := hh
    obtain ⟨A2, c2, hv⟩ := Kd.R_slice hr
    subst hv
    exact ⟨A2, c2, he, hr, hb⟩)
  have HPL := Aside0.mk (fun (W1 : World) (hb : Below W0.heap.size W0 W1) => Ends.place_emu g _ m.pc W1 (HH.out.below hb) rfl)
  have hat : atOf m = if m.err = 0 then 0 else Ends.place m.pc := rfl
  have HAT := Aside0.mk (show (m.err = 0 → atOf m = 0) ∧ (m.err ≠ 0 → atOf m = Ends.place m.pc) from ⟨fun h => hat.trans (if_pos h), fun h => hat.trans (if_neg h)⟩)
  clear hat
  generalize atOf m = at_ at *
  generalize Ends.place m.pc = pl at *
  have L := below_drew1 (Below.refl W0.heap.size W0)
  generalize regsOf m = rg at *
  obtain ⟨tr, htr⟩ : ∃ tr, m.tr = tr := ⟨_, rfl⟩
  rw [htr] at HCC HCT x40 hl ⊢
  clear htr
  obtain ⟨T, hT⟩ : ∃ T, tr.length = T := ⟨_, rfl⟩
  rw [hT] at HCC HCT x40 hl
  clear hT
  generalize m.err = er at *
  generalize m.steps = st at *
  clear HH
  go_enter Tryz.func21, Tryz.ntmps21
  go_wp2_with fail
  rw [HW0.out]
  clear HW0
  refine start_ (n := 21) (S := fun w' => w'.cell? ⟨g, 39, none⟩ = some (.int .i64 er) ∧ w'.cell? ⟨g, 37, none⟩ = some (.int .i64 st) ∧ w'.cell? ⟨g, 40, none⟩ = some (.slice At T ct)) (ds := []) #[false, false, false, false, false, false, false, false, false, false, false, false, false, false, false, false, false, false, false, false, false] (by kernel_rfl) rfl rfl ⟨kB L x39, kB L x37, kB L x40⟩ (fun hHeld => ?_)
  refine pure_ (i := 0) (N := some 4) (v := ?_) (a' := ?_) #[true, false, false, false, false, false, false, false, false, false, false, false, false, false, false, false, false, false, false, false, false] rfl rfl (by kernel_rfl) (fun _ _ _ h => h) (Or.inl ⟨by rfl, ?_⟩) ?_ ?_
  rotate_left
  · intro w'
    go_simp
    with_reducible rfl
  rotate_left
  · simp only [Act.put, List.setIfInBounds_toArray, List.set_cons_zero, List.set_cons_succ, i64_w, i32_w]
    rfl
  refine pure_ (i := 1) (N := some 5) (v := ?_) (a' := ?_) #[true, true, false, false, false, false, false, false, false, false, false, false, false, false, false, false, false, false, false, false, false] rfl rfl (by kernel_rfl) (fun _ _ _ h => h) (Or.inl ⟨by rfl, ?_⟩) ?_ ?_
  rotate_left
  · intro w'
    go_simp
    with_reducible rfl
  rotate_left
  · simp only [Act.put, List.setIfInBounds_toArray, List.set_cons_zero, List.set_cons_succ, i64_w, i32_w]
    rfl
  refine pure_ (i := 2) (N := some 6) (v := ?_) (a' := ?_) #[true, true, true, false, false, false, false, false, false, false, false, false, false, false, false, false, false, false, false, false, false] rfl rfl (by kernel_rfl) (fun _ _ _ h => h) (Or.inl ⟨by rfl, ?_⟩) ?_ ?_
  rotate_left
  · intro w'
    go_simp
    with_reducible rfl
  rotate_left
  · simp only [Act.put, List.setIfInBounds_toArray, List.set_cons_zero, List.set_cons_succ, i64_w, i32_w]
    rfl
  refine pure_ (i := 4) (N := some 8) (v := ?_) (a' := ?_) #[true, true, true, false, true, false, false, false, false, false, false, false, false, false, false, false, false, false, false, false, false] rfl rfl (by kernel_rfl) (fun _ _ _ h => h) (Or.inl ⟨by rfl, ?_⟩) ?_ ?_
  rotate_left
  · intro w'
    go_simp
    with_reducible rfl
  rotate_left
  · simp only [Act.put, List.setIfInBounds_toArray, List.set_cons_zero, List.set_cons_succ, i64_w, i32_w]
    rfl
  refine pure_ (i := 5) (N := some 9) (v := ?_) (a' := ?_) #[true, true, true, false, true, true, false, false, false, false, false, false, false, false, false, false, false, false, false, false, false] rfl rfl (by kernel_rfl) (fun _ _ _ h => h) (Or.inl ⟨by rfl, ?_⟩) ?_ ?_
  rotate_left
  · intro w'
    go_simp
    with_reducible rfl
  rotate_left
  · simp only [Act.put, List.setIfInBounds_toArray, List.set_cons_zero, List.set_cons_succ, i64_w, i32_w]
    rfl
  refine pure_ (i := 6) (N := some 10) (v := ?_) (a' := ?_) #[true, true, true, false, true, true, true, false, false, false, false, false, false, false, false, false, false, false, false, false, false] rfl rfl (by kernel_rfl) (fun _ _ _ h => h) (Or.inl ⟨by rfl, ?_⟩) ?_ ?_
  rotate_left
  · intro w'
    go_simp
    with_reducible rfl
  rotate_left
  · simp only [Act.put, List.setIfInBounds_toArray, List.set_cons_zero, List.set_cons_succ, i64_w, i32_w]
    rfl
  refine pure_ (i := 8) (N := some 12) (v := ?_) (a' := ?_) #[true, true, true, false, true, true, true, false, true, false, false, false, false, false, false, false, false, false, false, false, false] rfl rfl (by kernel_rfl) (fun _ _ _ h => h) (Or.inl ⟨by rfl, ?_⟩) ?_ ?_
  rotate_left
  · intro w'
    go_simp
    with_reducible rfl
  rotate_left
  · simp only [Act.put, List.setIfInBounds_toArray, List.set_cons_zero, List.set_cons_succ, i64_w, i32_w]
    rfl
  refine pure_ (i := 9) (N := some 13) (v := ?_) (a' := ?_) #[true, true, true, false, true, true, true, false, true, true, false, false, false, false, false, false, false, false, false, false, false] rfl rfl (by kernel_rfl) (fun _ _ _ h => h) (Or.inl ⟨by rfl, ?_⟩) ?_ ?_
  rotate_left
  · intro w'
    go_simp
    with_reducible rfl
  rotate_left
  · simp only [Act.put, List.setIfInBounds_toArray, List.set_cons_zero, List.set_cons_succ, i64_w, i32_w]
    rfl
  refine pure_ (i := 10) (N := some 14) (v := ?_) (a' := ?_) #[true, true, true, false, true, true, true, false, true, true, true, false, false, false, false, false, false, false, false, false, false] rfl rfl (by kernel_rfl) (fun _ _ _ h => h) (Or.inl ⟨by rfl, ?_⟩) ?_ ?_
  rotate_left
  · intro w'
    go_simp
    with_reducible rfl
  rotate_left
  · simp only [Act.put, List.setIfInBounds_toArray, List.set_cons_zero, List.set_cons_succ, i64_w, i32_w]
    rfl
  refine pure_ (i := 11) (N := some 15) (v := ?_) (a' := ?_) #[true, true, true, false, true, true, true, false, true, true, true, true, false, false, false, false, false, false, false, false, false] rfl rfl (by kernel_rfl) (fun _ _ _ h => h) (Or.inl ⟨by rfl, ?_⟩) ?_ ?_
  rotate_left
  · intro w'
    go_simp
    with_reducible rfl
  rotate_left
  · simp only [Act.put, List.setIfInBounds_toArray, List.set_cons_zero, List.set_cons_succ, i64_w, i32_w]
    rfl
  refine pure_ (i := 13) (N := some 17) (v := ?_) (a' := ?_) #[true, true, true, false, true, true, true, false, true, true, true, true, false, true, false, false, false, false, false, false, false] rfl rfl (by kernel_rfl) (fun _ _ _ h => h) (Or.inl ⟨by rfl, ?_⟩) ?_ ?_
  rotate_left
  · intro w'
    go_simp
    with_reducible rfl
  rotate_left
  · simp only [Act.put, List.setIfInBounds_toArray, List.set_cons_zero, List.set_cons_succ, i64_w, i32_w]
    rfl
  refine pure_ (i := 14) (N := some 18) (v := ?_) (a' := ?_) #[true, true, true, false, true, true, true, false, true, true, true, true, false, true, true, false, false, false, false, false, false] rfl rfl (by kernel_rfl) (fun _ _ _ h => h) (Or.inl ⟨by rfl, ?_⟩) ?_ ?_
  rotate_left
  · intro w'
    go_simp
    with_reducible rfl
  rotate_left
  · simp only [Act.put, List.setIfInBounds_toArray, List.set_cons_zero, List.set_cons_succ, i64_w, i32_w]
    rfl
  refine pure_ (i := 15) (N := some 19) (v := ?_) (a' := ?_) #[true, true, true, false, true, true, true, false, true, true, true, true, false, true, true, true, false, false, false, false, false] rfl rfl (by kernel_rfl) (fun _ _ _ h => h) (Or.inl ⟨by rfl, ?_⟩) ?_ ?_
  rotate_left
  · intro w'
    go_simp
    with_reducible rfl
  rotate_left
  · simp only [Act.put, List.setIfInBounds_toArray, List.set_cons_zero, List.set_cons_succ, i64_w, i32_w]
    rfl
  refine take_ (i := 3) (N := some 7) (v := ?_) (a' := ?_) #[true, true, true, true, true, true, true, false, true, true, true, true, false, true, true, true, false, false, false, false, false] rfl rfl (by kernel_rfl) (fun _ _ _ h => h) (Or.inl ⟨by rfl, ?_⟩) hHeld ?_ ?_
  rotate_left
  · rintro w' ⟨s0, s1, s2⟩
    go_simp
    with_reducible rfl
  rotate_left
  · simp only [Act.put, List.setIfInBounds_toArray, List.set_cons_zero, List.set_cons_succ, i64_w, i32_w]
    rfl
  refine take_ (i := 7) (N := some 11) (v := ?_) (a' := ?_) #[true, true, true, true, true, true, true, true, true, true, true, true, false, true, true, true, false, false, false, false, false] rfl rfl (by kernel_rfl) (fun _ _ _ h => h) (Or.inl ⟨by rfl, ?_⟩) hHeld ?_ ?_
  rotate_left
  · rintro w' ⟨s0, s1, s2⟩
    go_simp
    with_reducible rfl
  rotate_left
  · simp only [Act.put, List.setIfInBounds_toArray, List.set_cons_zero, List.set_cons_succ, i64_w, i32_w]
    rfl
  refine take_ (i := 16) (N := some 20) (v := ?_) (a' := ?_) #[true, true, true, true, true, true, true, true, true, true, true, true, false, true, true, true, true, false, false, false, false] rfl rfl (by kernel_rfl) (fun _ _ _ h => h) (Or.inl ⟨by rfl, ?_⟩) hHeld ?_ ?_
  rotate_left
  · rintro w' ⟨s0, s1, s2⟩
    go_simp
    with_reducible rfl
  rotate_left
  · simp only [Act.put, List.setIfInBounds_toArray, List.set_cons_zero, List.set_cons_succ, i64_w, i32_w]
    rfl
  refine join_ (σ := (Option Addr × Nat) × (Option Addr × Nat) × Nat) 1 #[true, true, true, true, true, true, true, true, true, true, true, true, true, true, true, true, true, true, true, true, false] (fun s => [(16, Value.slice s.1.1 32 s.1.2), (21, Value.slice s.2.1.1 T s.2.1.2), (22, Value.agg #[.int .i64 er, .int .i64 0, .int .i64 st, .slice s.1.1 32 s.1.2, .slice s.2.1.1 T s.2.1.2]), (3, Value.pointer (some ⟨s.2.2, 0, none⟩))]) (fun s w' => Kd.R (Kd.int .u64) 52 w' W0.heap.size (fun _ => True) (.slice s.1.1 32 s.1.2) rg ∧ Kd.R k54 54 w' W0.heap.size (fun _ => True) (.slice s.2.1.1 T s.2.1.2) tr ∧ w'.heap[s.2.2]? = some (.cells #[.int .i64 0, .int .i64 0, .int .i64 0, .slice none 0 0, .slice none 0 0] 31 (0, 0)) ∧ Below W0.heap.size W0 w' ∧ W0.heap.size ≤ s.2.2) ?_ ?_
  rotate_left
  · intro hCont
    refine two_ (i := 12) (j := 19) (Ni := some 16) (Nj := some 3) #[true, true, true, true, true, true, true, true, true, true, true, true, true, true, true, true, true, false, false, false, false] #[true, true, true, true, true, true, true, true, true, true, true, true, false, true, true, true, true, false, false, true, false] rfl rfl rfl rfl (by kernel_rfl) (by decide) (by decide) (fun K hK => ?_) (fun K hK => ?_)
    · skip
      refine goes_ Tryz.func37 (by kernel_rfl) rfl #[.slice (some ⟨g, 3, none⟩) 32 32] (by rfl) rfl rfl (by simp only [List.map_toArray, List.map_cons, List.map_nil]; rfl) ?_
      with_reducible refine (HCR.out _ L).mono ?_
      rintro e w9 ⟨A1, c1, rfl, hr16, hb16⟩
      refine ⟨_, rfl, ?_⟩
      have hrr := Kd.R_lower hr16 (below_size L)
      have L := below_step L hb16
      refine hK.out _ _ ⟨kB L x39, kB L x37, kB L x40⟩ (fun hHeld => ?_)
      clear hK K
      refine norm_ (a' := ?_) ?_ ?_
      rotate_left
      · show Act.put _ (some 16) _ = _
        simp only [Act.put, List.setIfInBounds_toArray, List.set_cons_zero, List.set_cons_succ, i64_w, i32_w]
        rfl
      refine two_ (i := 17) (j := 19) (Ni := some 21) (Nj := some 3) #[true, true, true, true, true, true, true, true, true, true, true, true, true, true, true, true, true, true, false, false, false] #[true, true, true, true, true, true, true, true, true, true, true, true, true, true, true, true, true, false, false, true, false] rfl rfl rfl rfl (by kernel_rfl) (by decide) (by decide) (fun K hK => ?_) (fun K hK => ?_)
      · skip
        refine goes_ Tryz.func38 (by kernel_rfl) rfl #[.slice At T ct] (by rfl) rfl rfl (by simp only [List.map_toArray, List.map_cons, List.map_nil]; rfl) ?_
        with_reducible refine (HCT.out _ L).mono ?_
        rintro e w10 ⟨A2, c2, rfl, hr21, hb21⟩
        refine ⟨_, rfl, ?_⟩
        have hrt := Kd.R_lower hr21 (below_size L)
        have hrr := Kd.R_below hrr hb21
        have L := below_step L hb21
        refine hK.out _ _ ⟨kB L x39, kB L x37, kB L x40⟩ (fun hHeld => ?_)
        clear hK K
        refine norm_ (a' := ?_) ?_ ?_
        rotate_left
        · show Act.put _ (some 21) _ = _
          simp only [Act.put, List.setIfInBounds_toArray, List.set_cons_zero, List.set_cons_succ, i64_w, i32_w]
          rfl
        refine pure_ (i := 18) (N := some 22) (v := ?_) (a' := ?_) #[true, true, true, true, true, true, true, true, true, true, true, true, true, true, true, true, true, true, true, false, false] rfl rfl (by kernel_rfl) (fun _ _ _ h => h) (Or.inl ⟨by rfl, ?_⟩) ?_ ?_
        rotate_left
        · intro w'
          go_simp
          with_reducible rfl
        rotate_left
        · simp only [Act.put, List.setIfInBounds_toArray, List.set_cons_zero, List.set_cons_succ, i64_w, i32_w]
          rfl
        refine one_ (i := 19) (N := some 3) #[true, true, true, true, true, true, true, true, true, true, true, true, true, true, true, true, true, true, true, true, false] rfl rfl (by kernel_rfl) (by decide) (fun K hK => ?_)
        refine value_ (w1 := ?_) (v := ?_) (by rfl) rfl ?_ ?_
        rotate_left 2
        · go_simp
          constructor
          · rfl
          · rfl
        have hle := below_size L
        have ha := blk_new w10 (.cells #[.int .i64 0, .int .i64 0, .int .i64 0, .slice none 0 0, .slice none 0 0] 31)
        have hrr := Kd.R_alloc hrr (.cells #[.int .i64 0, .int .i64 0, .int .i64 0, .slice none 0 0, .slice none 0 0] 31)
        have hrt := Kd.R_alloc hrt (.cells #[.int .i64 0, .int .i64 0, .int .i64 0, .slice none 0 0, .slice none 0 0] 31)
        have L := below_alloc L (.cells #[.int .i64 0, .int .i64 0, .int .i64 0, .slice none 0 0, .slice none 0 0] 31)
        refine hK.out _ _ ⟨kB L x39, kB L x37, kB L x40⟩ (fun hHeld => ?_)
        clear hK K
        refine norm_ (a' := ?_) ?_ ?_
        rotate_left
        · show Act.put _ (some 3) _ = _
          simp only [Act.put, List.setIfInBounds_toArray, List.set_cons_zero, List.set_cons_succ, i64_w, i32_w]
          rfl
        exact norm_ (by simp only [putAll, Act.put, List.setIfInBounds_toArray, List.set_cons_zero, List.set_cons_succ]) (hCont ((A1, c1), (A2, c2), w10.heap.size) _ ⟨hrr, hrt, ha, L, hle⟩)
      · skip
        refine value_ (w1 := ?_) (v := ?_) (by rfl) rfl ?_ ?_
        rotate_left 2
        · go_simp
          constructor
          · rfl
          · rfl
        have hle := below_size L
        have ha := blk_new w9 (.cells #[.int .i64 0, .int .i64 0, .int .i64 0, .slice none 0 0, .slice none 0 0] 31)
        have hrr := Kd.R_alloc hrr (.cells #[.int .i64 0, .int .i64 0, .int .i64 0, .slice none 0 0, .slice none 0 0] 31)
        have L := below_alloc L (.cells #[.int .i64 0, .int .i64 0, .int .i64 0, .slice none 0 0, .slice none 0 0] 31)
        refine hK.out _ _ ⟨kB L x39, kB L x37, kB L x40⟩ (fun hHeld => ?_)
        clear hK K
        refine norm_ (a' := ?_) ?_ ?_
        rotate_left
        · show Act.put _ (some 3) _ = _
          simp only [Act.put, List.setIfInBounds_toArray, List.set_cons_zero, List.set_cons_succ, i64_w, i32_w]
          rfl
        refine one_ (i := 17) (N := some 21) #[true, true, true, true, true, true, true, true, true, true, true, true, true, true, true, true, true, true, false, true, false] rfl rfl (by kernel_rfl) (by decide) (fun K hK => ?_)
        refine goes_ Tryz.func38 (by kernel_rfl) rfl #[.slice At T ct] (by rfl) rfl rfl (by simp only [List.map_toArray, List.map_cons, List.map_nil]; rfl) ?_
        with_reducible refine (HCT.out _ L).mono ?_
        rintro e w10 ⟨A2, c2, rfl, hr21, hb21⟩
        refine ⟨_, rfl, ?_⟩
        have hrt := Kd.R_lower hr21 (below_size L)
        have hrr := Kd.R_below hrr hb21
        have L := below_step L hb21
        have ha := blk_below ha hb21
        refine hK.out _ _ ⟨kB L x39, kB L x37, kB L x40⟩ (fun hHeld => ?_)
        clear hK K
        refine norm_ (a' := ?_) ?_ ?_
        rotate_left
        · show Act.put _ (some 21) _ = _
          simp only [Act.put, List.setIfInBounds_toArray, List.set_cons_zero, List.set_cons_succ, i64_w, i32_w]
          rfl
        refine pure_ (i := 18) (N := some 22) (v := ?_) (a' := ?_) #[true, true, true, true, true, true, true, true, true, true, true, true, true, true, true, true, true, true, true, true, false] rfl rfl (by kernel_rfl) (fun _ _ _ h => h) (Or.inl ⟨by rfl, ?_⟩) ?_ ?_
        rotate_left
        · intro w'
          go_simp
          with_reducible rfl
        rotate_left
        · simp only [Act.put, List.setIfInBounds_toArray, List.set_cons_zero, List.set_cons_succ, i64_w, i32_w]
          rfl
        exact norm_ (by simp only [putAll, Act.put, List.setIfInBounds_toArray, List.set_cons_zero, List.set_cons_succ]) (hCont ((A1, c1), (A2, c2), w9.heap.size) _ ⟨hrr, hrt, ha, L, hle⟩)
    · skip
      refine value_ (w1 := ?_) (v := ?_) (by rfl) rfl ?_ ?_
      rotate_left 2
      · go_simp
        constructor
        · rfl
        · rfl
      have hle := below_size L
      have ha : (W0.alloc (.cells #[.int .i64 0, .int .i64 0, .int .i64 0, .slice none 0 0, .slice none 0 0] 31)).drew.heap[W0.heap.size]? = some (.cells #[.int .i64 0, .int .i64 0, .int .i64 0, .slice none 0 0, .slice none 0 0] 31 (0, 0)) := blk_new W0 _
      have L : Below W0.heap.size W0 (W0.alloc (.cells #[.int .i64 0, .int .i64 0, .int .i64 0, .slice none 0 0, .slice none 0 0] 31)).drew := below_drew1 (below_alloc (Below.refl _ _) _)
      refine hK.out _ _ ⟨kB L x39, kB L x37, kB L x40⟩ (fun hHeld => ?_)
      clear hK K
      refine norm_ (a' := ?_) ?_ ?_
      rotate_left
      · show Act.put _ (some 3) _ = _
        simp only [Act.put, List.setIfInBounds_toArray, List.set_cons_zero, List.set_cons_succ, i64_w, i32_w]
        rfl
      refine one_ (i := 12) (N := some 16) #[true, true, true, true, true, true, true, true, true, true, true, true, true, true, true, true, true, false, false, true, false] rfl rfl (by kernel_rfl) (by decide) (fun K hK => ?_)
      refine goes_ Tryz.func37 (by kernel_rfl) rfl #[.slice (some ⟨g, 3, none⟩) 32 32] (by rfl) rfl rfl (by simp only [List.map_toArray, List.map_cons, List.map_nil]; rfl) ?_
      with_reducible refine (HCR.out _ L).mono ?_
      rintro e w9 ⟨A1, c1, rfl, hr16, hb16⟩
      refine ⟨_, rfl, ?_⟩
      have hrr := Kd.R_lower hr16 (below_size L)
      have L := below_step L hb16
      have ha := blk_below ha hb16
      refine hK.out _ _ ⟨kB L x39, kB L x37, kB L x40⟩ (fun hHeld => ?_)
      clear hK K
      refine norm_ (a' := ?_) ?_ ?_
      rotate_left
      · show Act.put _ (some 16) _ = _
        simp only [Act.put, List.setIfInBounds_toArray, List.set_cons_zero, List.set_cons_succ, i64_w, i32_w]
        rfl
      refine one_ (i := 17) (N := some 21) #[true, true, true, true, true, true, true, true, true, true, true, true, true, true, true, true, true, true, false, true, false] rfl rfl (by kernel_rfl) (by decide) (fun K hK => ?_)
      refine goes_ Tryz.func38 (by kernel_rfl) rfl #[.slice At T ct] (by rfl) rfl rfl (by simp only [List.map_toArray, List.map_cons, List.map_nil]; rfl) ?_
      with_reducible refine (HCT.out _ L).mono ?_
      rintro e w10 ⟨A2, c2, rfl, hr21, hb21⟩
      refine ⟨_, rfl, ?_⟩
      have hrt := Kd.R_lower hr21 (below_size L)
      have hrr := Kd.R_below hrr hb21
      have L := below_step L hb21
      have ha := blk_below ha hb21
      refine hK.out _ _ ⟨kB L x39, kB L x37, kB L x40⟩ (fun hHeld => ?_)
      clear hK K
      refine norm_ (a' := ?_) ?_ ?_
      rotate_left
      · show Act.put _ (some 21) _ = _
        simp only [Act.put, List.setIfInBounds_toArray, List.set_cons_zero, List.set_cons_succ, i64_w, i32_w]
        rfl
      refine pure_ (i := 18) (N := some 22) (v := ?_) (a' := ?_) #[true, true, true, true, true, true, true, true, true, true, true, true, true, true, true, true, true, true, true, true, false] rfl rfl (by kernel_rfl) (fun _ _ _ h => h) (Or.inl ⟨by rfl, ?_⟩) ?_ ?_
      rotate_left
      · intro w'
        go_simp
        with_reducible rfl
      rotate_left
      · simp only [Act.put, List.setIfInBounds_toArray, List.set_cons_zero, List.set_cons_succ, i64_w, i32_w]
        rfl
      exact norm_ (by simp only [putAll, Act.put, List.setIfInBounds_toArray, List.set_cons_zero, List.set_cons_succ]) (hCont ((A1, c1), (A2, c2), W0.heap.size) _ ⟨hrr, hrt, ha, L, hle⟩)
  rintro ⟨⟨A1, c1⟩, ⟨A2, c2⟩, pb⟩ w11 ⟨hrr, hrt, ha, L, hle⟩
  simp only at hrr hrt ha hle
  have hHeld : w11.cell? ⟨g, 39, none⟩ = some (.int .i64 er) ∧ w11.cell? ⟨g, 37, none⟩ = some (.int .i64 st) ∧ w11.cell? ⟨g, 40, none⟩ = some (.slice At T ct) := ⟨kB L x39, kB L x37, kB L x40⟩
  have z0 := blk_cell ha 0
  have z1 := blk_cell ha 1
  have z2 := blk_cell ha 2
  have z3 := blk_cell ha 3
  have z4 := blk_cell ha 4
  simp only [List.getElem?_toArray, List.getElem?_cons_zero, List.getElem?_cons_succ] at z0 z1 z2 z3 z4
  have f0_ := blk_frozen ha 0
  have f1_ := blk_frozen ha 1
  have f2_ := blk_frozen ha 2
  have f3_ := blk_frozen ha 3
  have f4_ := blk_frozen ha 4
  refine norm_ (a' := ?_) ?_ ?_
  rotate_left
  · simp only [putAll, Act.put, List.setIfInBounds_toArray, List.set_cons_zero, List.set_cons_succ]
    rfl
  refine one_ (i := 20) (N := none) #[true, true, true, true, true, true, true, true, true, true, true, true, true, true, true, true, true, true, true, true, true] rfl rfl (by kernel_rfl) (by decide) (fun K hK => ?_)
  refine skip_ (w1 := ?_) (by rfl) rfl ?_ ?_
  rotate_left
  · go_simp
    rfl
  refine hK.out _ _ ⟨kS5 (HGP.out _ hle) hHeld.1, kS5 (HGP.out _ hle) hHeld.2.1, kS5 (HGP.out _ hle) hHeld.2.2⟩ (fun hHeld => ?_)
  clear hK K
  refine done_ (by kernel_rfl) ?_

  change Exit.then _ _ _ _ (put5 w11 pb (.int .i64 er) (.int .i64 0) (.int .i64 st) (.slice A1 32 c1) (.slice A2 T c2))
  have y39 : (put5 w11 pb (.int .i64 er) (.int .i64 0) (.int .i64 st) (.slice A1 32 c1) (.slice A2 T c2)).cell? ⟨g, 39, none⟩ = some (.int .i64 er) := by unfold put5; exact hHeld.1
  have HA := Aside0.mk (put5_block ha (.int .i64 er) (.int .i64 0) (.int .i64 st) (.slice A1 32 c1) (.slice A2 T c2))
  have HR := Aside0.mk (R_put5 hrr ha (by decide) (.int .i64 er) (.int .i64 0) (.int .i64 st) (.slice A1 32 c1) (.slice A2 T c2))
  have HT := Aside0.mk (R_put5 hrt ha (by decide) (.int .i64 er) (.int .i64 0) (.int .i64 st) (.slice A1 32 c1) (.slice A2 T c2))
  have HLW := Aside0.mk (put5_below (.int .i64 er) (.int .i64 0) (.int .i64 st) (.slice A1 32 c1) (.slice A2 T c2) L hle)
  have hlt : w.heap.size < pb := Nat.lt_of_lt_of_le HSZ.out hle
  have HOW2 := Aside0.mk ((put5_far (W := w11) (.int .i64 er) (.int .i64 0) (.int .i64 st) (.slice A1 32 c1) (.slice A2 T c2) (Nat.ne_of_lt hlt)).trans (blk_below HOW.out L))
  have HNE := Aside0.mk hlt
  clear hHeld ha hrr hrt hlt z0 z1 z2 z3 z4 f0_ f1_ f2_ f3_ f4_ x39 x37 x40 HCR HCT HCC HGP L HOW
  generalize put5 w11 pb (.int .i64 er) (.int .i64 0) (.int .i64 st) (.slice A1 32 c1) (.slice A2 T c2) = W12 at *
  by_cases he : er = 0
  · subst he
    have HE := HAT.out.1 rfl
    clear HAT
    subst HE
    have o0_ := blk_cell HOW2.out 0
    have o1_ := blk_cell HOW2.out 1
    have o2_ := blk_cell HOW2.out 2
    have o3_ := blk_cell HOW2.out 3
    have o4_ := blk_cell HOW2.out 4
    have of0_ := blk_frozen HOW2.out 0
    have of1_ := blk_frozen HOW2.out 1
    have of2_ := blk_frozen HOW2.out 2
    have of3_ := blk_frozen HOW2.out 3
    have of4_ := blk_frozen HOW2.out 4
    have a0_ := blk_cell HA.out 0
    have a1_ := blk_cell HA.out 1
    have a2_ := blk_cell HA.out 2
    have a3_ := blk_cell HA.out 3
    have a4_ := blk_cell HA.out 4
    have af1_ := blk_frozen HA.out 1
    simp only [List.getElem?_toArray, List.getElem?_cons_zero, List.getElem?_cons_succ] at o0_ o1_ o2_ o3_ o4_ a0_ a1_ a2_ a3_ a4_
    go_wp2_with fail
    have hp := put5_block HOW2.out (.int .i64 0) (.int .i64 0) (.int .i64 st) (.slice A1 32 c1) (.slice A2 T c2)
    have hq1 := Kd.R_lower (R_put5 HR.out HOW2.out (by decide) (.int .i64 0) (.int .i64 0) (.int .i64 st) (.slice A1 32 c1) (.slice A2 T c2)) HB.out.size
    have hq2 := Kd.R_lower (R_put5 HT.out HOW2.out (by decide) (.int .i64 0) (.int .i64 0) (.int .i64 st) (.slice A1 32 c1) (.slice A2 T c2)) HB.out.size
    have hq3 := put5_below (.int .i64 0) (.int .i64 0) (.int .i64 st) (.slice A1 32 c1) (.slice A2 T c2) (below_step HB.out HLW.out) (Nat.le_refl w.heap.size)
    unfold put5 at hp hq1 hq2 hq3
    refine bodyPost_ret (results_c (fn := Tryz.f21) (p := 2) (ty := 31) rfl _ _ w.heap.size 31 #[.int .i64 0, .int .i64 0, .int .i64 st, .slice A1 32 c1, .slice A2 T c2] (0, 0) _ rfl hp Tryz.underlying31 rfl (by kernel_rfl)) rfl ?_
    exact ⟨_, _, rfl, hq1, hq2, hq3⟩
  · have q1 : (er != 0) = true := bne_iff_ne.2 he
    have q2 : (er == 0) = false := beq_eq_false_iff_ne.2 he
    have HE := (HAT.out.2 he).symm
    clear HAT he
    subst HE
    go_wp2_with fail
    refine (HPL.out _ HLW.out).mono ?_
    rintro e w13 ⟨rfl, hw13⟩
    subst hw13
    have HA2 := Aside0.mk (blk_put (cs' := #[.int .i64 er, .int .i64 pl, .int .i64 st, (.slice A1 32 c1), (.slice A2 T c2)]) HA.out 1 (.int .i64 pl) rfl)
    have HR2 := Aside0.mk (Kd.R_set HR.out HA.out (by decide) 1 (.int .i64 pl))
    have HT2 := Aside0.mk (Kd.R_set HT.out HA.out (by decide) 1 (.int .i64 pl))
    have HLW2 := Aside0.mk (HLW.out.setCell (p := ⟨pb, 1, none⟩) hle (.int .i64 pl))
    have HOW3 := Aside0.mk ((Below.heap_setCell w13 ⟨pb, 1, none⟩ (.int .i64 pl) w.heap.size (Nat.ne_of_lt HNE.out)).trans HOW2.out)
    have o0_ := blk_cell HOW3.out 0
    have o1_ := blk_cell HOW3.out 1
    have o2_ := blk_cell HOW3.out 2
    have o3_ := blk_cell HOW3.out 3
    have o4_ := blk_cell HOW3.out 4
    have of0_ := blk_frozen HOW3.out 0
    have of1_ := blk_frozen HOW3.out 1
    have of2_ := blk_frozen HOW3.out 2
    have of3_ := blk_frozen HOW3.out 3
    have of4_ := blk_frozen HOW3.out 4
    have a0_ := blk_cell HA.out 0
    have a1_ := blk_cell HA.out 1
    have a2_ := blk_cell HA.out 2
    have a3_ := blk_cell HA.out 3
    have a4_ := blk_cell HA.out 4
    have af1_ := blk_frozen HA.out 1
    simp only [List.getElem?_toArray, List.getElem?_cons_zero, List.getElem?_cons_succ] at o0_ o1_ o2_ o3_ o4_ a0_ a1_ a2_ a3_ a4_
    go_wp2_with fail
    have hp := put5_block HOW3.out (.int .i64 er) (.int .i64 pl) (.int .i64 st) (.slice A1 32 c1) (.slice A2 T c2)
    have hq1 := Kd.R_lower (R_put5 HR2.out HOW3.out (by decide) (.int .i64 er) (.int .i64 pl) (.int .i64 st) (.slice A1 32 c1) (.slice A2 T c2)) HB.out.size
    have hq2 := Kd.R_lower (R_put5 HT2.out HOW3.out (by decide) (.int .i64 er) (.int .i64 pl) (.int .i64 st) (.slice A1 32 c1) (.slice A2 T c2)) HB.out.size
    have hq3 := put5_below (.int .i64 er) (.int .i64 pl) (.int .i64 st) (.slice A1 32 c1) (.slice A2 T c2) (below_step HB.out HLW2.out) (Nat.le_refl w.heap.size)
    unfold put5 at hp hq1 hq2 hq3
    refine bodyPost_ret (results_c (fn := Tryz.f21) (p := 2) (ty := 31) rfl _ _ w.heap.size 31 #[.int .i64 er, .int .i64 pl, .int .i64 st, .slice A1 32 c1, .slice A2 T c2] (0, 0) _ rfl hp Tryz.underlying31 rfl (by kernel_rfl)) rfl ?_
    exact ⟨_, _, rfl, hq1, hq2, hq3⟩
end Go.Proofs.YtcgkgaibomcheaaGreat.EOut
end

section
/- The program's Run. Conditions: the entry can be read. -/
namespace Go.Proofs.YtcgkgaibomcheaaGreat.ERun
open Go.RowKit Go.Proofs.YtcgkgaibomcheaaGreat.Bits Go.Proofs.YtcgkgaibomcheaaGreat.Mac Go.Proofs.YtcgkgaibomcheaaGreat.Mb Go.Proofs.YtcgkgaibomcheaaGreat.Rd Go.Proofs.YtcgkgaibomcheaaGreat.RDec Go.Proofs.YtcgkgaibomcheaaGreat.EM Go.Proofs.YtcgkgaibomcheaaGreat.EOut Go.Proofs.YtcgkgaibomcheaaGreat.NewM Go.Proofs.YtcgkgaibomcheaaGreat.NewE Go.Proofs.YtcgkgaibomcheaaGreat.Pure Go.Proofs.YtcgkgaibomcheaaGreat.Goes Go.Proofs.YtcgkgaibomcheaaGreat.PRvemuRuns Go.Proofs.YtcgkgaibomcheaaGreatW.PrintWords Go.Proofs.YtcgkgaibomcheaaGreatW.PrintLast Go.Proofs.YtcgkgaibomcheaaGreatW.PrintMore
set_option linter.unusedVariables false
set_option linter.unusedSimpArgs false

set_option maxRecDepth 20000 in
set_option maxHeartbeats 1000000 in
theorem runs (cA dA rA sA : Option Addr) (cc dc rc sc : Nat) (lc ld ls lr : List Int) (fr fu : Int) (w : World)
    (hc : (Kd.int .u8).C w cA lc.length lc) (hlc : lc.length ≤ 140737488355328) (hd : (Kd.int .u8).C w dA ld.length ld) (hr : (Kd.int .u64).C w rA lr.length lr) (hs : (Kd.int .u8).C w sA ls.length ls) (hbc : isBytes lc) (hbd : isBytes ld) (hbs : isBytes ls) (hwr : isWords lr) (hfu : fu ≤ 1000000) :
    Calls Tryz.prog 13 #[.agg #[.slice cA lc.length cc, .slice dA ld.length dc, .slice rA lr.length rc, .slice sA ls.length sc, .int .i64 fr, .int .i64 fu]] w fun e w' => ∃ m vr vt, m = runM (newM lc ld lr ls fr fu) ∧ e = .returned (.agg #[.int .i64 m.err, .int .i64 (atOf m), .int .i64 m.steps, vr, vt]) ∧ Kd.R (Kd.int .u64) 52 w' w.heap.size (fun _ => True) vr (regsOf m) ∧ Kd.R k54 54 w' w.heap.size (fun _ => True) vt m.tr ∧ Below w.heap.size w w' := by
  have HNW := Aside0.mk (show ∀ W, Below w.heap.size w W → Calls Tryz.prog 19 #[.agg #[.slice cA lc.length cc, .slice dA ld.length dc, .slice rA lr.length rc, .slice sA ls.length sc, .int .i64 fr, .int .i64 fu]] W fun e w' => ∃ g gm c d f, e = .returned (.pointer (some ⟨g, 0, none⟩)) ∧ Out W.heap.size w' g gm c d f (newM lc ld lr ls fr fu) ∧ Below W.heap.size W w' from fun W hb => ENew.news cA dA rA sA cc dc rc sc lc ld ls lr fr fu W (Kd.C_below hc hb) hlc (Kd.C_below hd hb) (Kd.C_below hr hb) (Kd.C_below hs hb) hbd hbs hwr)
  have HBC := Aside0.mk hbc
  have HLC := Aside0.mk hlc
  have HFU := Aside0.mk hfu
  clear hc hlc hd hr hs hbc hbd hbs hwr hfu
  obtain ⟨m0, hm0⟩ : ∃ m0, newM lc ld lr ls fr fu = m0 := ⟨_, rfl⟩
  have HI := Aside0.mk (inv_new lc ld lr ls fr fu)
  have HMC := Aside0.mk (new_code lc ld lr ls fr fu)
  have HMS := Aside0.mk (new_steps lc ld lr ls fr fu)
  have HMF := Aside0.mk (new_fuel lc ld lr ls fr fu)
  rw [hm0] at HI HMC HMS HMF HNW ⊢
  clear hm0
  have hA := blk_below (blk_new w (.cells #[.slice cA lc.length cc, .slice dA ld.length dc, .slice rA lr.length rc, .slice sA ls.length sc, .int .i64 fr, .int .i64 fu] 25)) (below_alloc (Below.refl _ _) (.cells #[.int .i64 0, .int .i64 0, .int .i64 0, .slice none 0 0, .slice none 0 0] 31))
  have z0 : ((w.alloc (.cells #[.slice cA lc.length cc, .slice dA ld.length dc, .slice rA lr.length rc, .slice sA ls.length sc, .int .i64 fr, .int .i64 fu] 25)).alloc (.cells #[.int .i64 0, .int .i64 0, .int .i64 0, .slice none 0 0, .slice none 0 0] 31)).cell? ⟨w.heap.size, 0, none⟩ = some (.slice cA lc.length cc) := (blk_cell hA 0).trans (by simp)
  have z1 : ((w.alloc (.cells #[.slice cA lc.length cc, .slice dA ld.length dc, .slice rA lr.length rc, .slice sA ls.length sc, .int .i64 fr, .int .i64 fu] 25)).alloc (.cells #[.int .i64 0, .int .i64 0, .int .i64 0, .slice none 0 0, .slice none 0 0] 31)).cell? ⟨w.heap.size, 1, none⟩ = some (.slice dA ld.length dc) := (blk_cell hA 1).trans (by simp)
  have z2 : ((w.alloc (.cells #[.slice cA lc.length cc, .slice dA ld.length dc, .slice rA lr.length rc, .slice sA ls.length sc, .int .i64 fr, .int .i64 fu] 25)).alloc (.cells #[.int .i64 0, .int .i64 0, .int .i64 0, .slice none 0 0, .slice none 0 0] 31)).cell? ⟨w.heap.size, 2, none⟩ = some (.slice rA lr.length rc) := (blk_cell hA 2).trans (by simp)
  have z3 : ((w.alloc (.cells #[.slice cA lc.length cc, .slice dA ld.length dc, .slice rA lr.length rc, .slice sA ls.length sc, .int .i64 fr, .int .i64 fu] 25)).alloc (.cells #[.int .i64 0, .int .i64 0, .int .i64 0, .slice none 0 0, .slice none 0 0] 31)).cell? ⟨w.heap.size, 3, none⟩ = some (.slice sA ls.length sc) := (blk_cell hA 3).trans (by simp)
  have z4 : ((w.alloc (.cells #[.slice cA lc.length cc, .slice dA ld.length dc, .slice rA lr.length rc, .slice sA ls.length sc, .int .i64 fr, .int .i64 fu] 25)).alloc (.cells #[.int .i64 0, .int .i64 0, .int .i64 0, .slice none 0 0, .slice none 0 0] 31)).cell? ⟨w.heap.size, 4, none⟩ = some (.int .i64 fr) := (blk_cell hA 4).trans (by simp)
  have z5 : ((w.alloc (.cells #[.slice cA lc.length cc, .slice dA ld.length dc, .slice rA lr.length rc, .slice sA ls.length sc, .int .i64 fr, .int .i64 fu] 25)).alloc (.cells #[.int .i64 0, .int .i64 0, .int .i64 0, .slice none 0 0, .slice none 0 0] 31)).cell? ⟨w.heap.size, 5, none⟩ = some (.int .i64 fu) := (blk_cell hA 5).trans (by simp)
  have HB2 := Aside0.mk (show Below w.heap.size w ((w.alloc (.cells #[.slice cA lc.length cc, .slice dA ld.length dc, .slice rA lr.length rc, .slice sA ls.length sc, .int .i64 fr, .int .i64 fu] 25)).alloc (.cells #[.int .i64 0, .int .i64 0, .int .i64 0, .slice none 0 0, .slice none 0 0] 31)) from below_alloc (below_alloc (Below.refl _ _) _) _)
  have HRES := Aside0.mk (show (((w.alloc (.cells #[.slice cA lc.length cc, .slice dA ld.length dc, .slice rA lr.length rc, .slice sA ls.length sc, .int .i64 fr, .int .i64 fu] 25)).alloc (.cells #[.int .i64 0, .int .i64 0, .int .i64 0, .slice none 0 0, .slice none 0 0] 31))).heap[w.heap.size + 1]? = some (.cells #[.int .i64 0, .int .i64 0, .int .i64 0, .slice none 0 0, .slice none 0 0] 31 (0, 0)) from by
    have h := blk_new (w.alloc (.cells #[.slice cA lc.length cc, .slice dA ld.length dc, .slice rA lr.length rc, .slice sA ls.length sc, .int .i64 fr, .int .i64 fu] 25)) (.cells #[.int .i64 0, .int .i64 0, .int .i64 0, .slice none 0 0, .slice none 0 0] 31)
    rw [World.size_alloc] at h
    exact h)
  clear hA
  go_enter Tryz.func13, Tryz.ntmps13
  go_wp2_with fail
  refine (HNW.out _ HB2.out).mono ?_
  rintro e W3 ⟨g, gm, c, d, f, rfl, hO, hb3⟩
  have HSZ := Aside0.mk (show w.heap.size + 1 < (((w.alloc (.cells #[.slice cA lc.length cc, .slice dA ld.length dc, .slice rA lr.length rc, .slice sA ls.length sc, .int .i64 fr, .int .i64 fu] 25)).alloc (.cells #[.int .i64 0, .int .i64 0, .int .i64 0, .slice none 0 0, .slice none 0 0] 31))).heap.size from by rw [World.size_alloc, World.size_alloc]; omega)
  have HG3 := Aside0.mk (goE_new hO hb3.size)
  have HB3 := Aside0.mk hb3
  clear hO hb3 z0 z1 z2 z3 z4 z5 HNW
  generalize ((w.alloc (.cells #[.slice cA lc.length cc, .slice dA ld.length dc, .slice rA lr.length rc, .slice sA ls.length sc, .int .i64 fr, .int .i64 fu] 25)).alloc (.cells #[.int .i64 0, .int .i64 0, .int .i64 0, .slice none 0 0, .slice none 0 0] 31)) = W2 at *
  go_wp2_with fail
  have HN := Aside0.mk (it_ends m0 HMS.out)
  have HINV := Aside0.mk (fun k => inv_it HI.out k)
  have HBND := Aside0.mk (show ∀ k, 0 ≤ (it k m0).steps ∧ (it k m0).steps ≤ 1000000 ∧ (it k m0).tr.length ≤ 1000000000 ∧ (it k m0).code = lc from fun k => by
    have h := HINV.out k
    have h1 := h.steps
    have h2 := h.max
    have h3 := h.tr
    have h4 := h.fuel
    rw [HMF.out] at h4
    have h5 := HFU.out
    exact ⟨h1, by omega, by omega, h.code.trans HMC.out⟩)
  go_loopg [] (m0.fuel.toNat + 1) (fun gk W => ∃ (i : Nat) (t : Value), i + gk = m0.fuel.toNat + 1 ∧ Aside0 (GoE W2.heap.size W3.heap.size g gm c d f t W (it i m0)) ∧ Aside0 (Below W2.heap.size W2 W))
  case atStart => exact ⟨0, .slice none 0 0, by omega, HG3, HB3⟩
  case round =>
    clear HG3 HB3
    obtain ⟨i, t, hi, HG, HB⟩ := hrel
    obtain ⟨b1, b2, b3, b4⟩ := HBND.out i
    have HST := Aside0.mk (EStep.step_eq HG.out.me HG.out.code (by rw [b4]; exact HBC.out) (by rw [b4]; have := HLC.out; omega) b3 (by omega) (by omega))
    have HI2 := Aside0.mk hi
    clear b1 b2 b3 b4 hi
    go_wp2_with fail
    refine HST.out.mono ?_
    rintro e W4 ⟨rfl, hl⟩
    obtain ⟨t4, hg4⟩ := HG.out.step hl
    have HB4 := Aside0.mk (below_wr HB.out HB.out.size hl.choose_spec.2.1 (fun k _ hk => (HG.out.owned k hk).2))
    have HG4 := Aside0.mk (show GoE W2.heap.size W3.heap.size g gm c d f t4 W4 (it (i + 1) m0) from hg4)
    clear hl hg4 HST HG HB
    have hsd : (stepM (it i m0)).done = (it (i + 1) m0).done := rfl
    rw [hsd]
    clear hsd
    by_cases hd : (it (i + 1) m0).done = true
    · have HM := Aside0.mk (runM_of m0 HMS.out hd)
      rw [hd]
      obtain ⟨b1, b2, b3, b4⟩ := HBND.out (i + 1)
      have HOU := Aside0.mk (EOut.outcome g (it (i + 1) m0) c d f t4 (.map (some gm)) W4 HG4.out.me.mb HG4.out.me.tr b3)
      clear hd b1 b2 b3 b4
      have HR4 := Aside0.mk (blk_below HRES.out HB4.out)
      rw [← HM.out] at HOU
      have hM := HM.out
      clear HG4 HINV HBND HN HMS HMC HMF HI HI2 HM
      go_wp2_with fail
      refine HOU.out.mono ?_
      rintro e W5 ⟨vr, vt, rfl, hr5, ht5, hb5⟩
      obtain ⟨Ar, cr, ear⟩ := Kd.R_slice hr5
      obtain ⟨At, ct, eat⟩ := Kd.R_slice ht5
      rw [regs_len] at ear
      subst ear
      subst eat
      have HR5 := Aside0.mk (blk_below HR4.out hb5)
      have HB5 := Aside0.mk (below_step HB2.out (below_step HB4.out hb5))
      have hle : w.heap.size ≤ W4.heap.size := (below_step HB2.out HB4.out).size
      have HRR := Aside0.mk (Kd.R_lower hr5 hle)
      have HRT := Aside0.mk (Kd.R_lower ht5 hle)
      clear hr5 ht5 hb5 hle HOU HR4 hM
      have o0_ := blk_cell HR5.out 0
      have o1_ := blk_cell HR5.out 1
      have o2_ := blk_cell HR5.out 2
      have o3_ := blk_cell HR5.out 3
      have o4_ := blk_cell HR5.out 4
      have of0_ := blk_frozen HR5.out 0
      have of1_ := blk_frozen HR5.out 1
      have of2_ := blk_frozen HR5.out 2
      have of3_ := blk_frozen HR5.out 3
      have of4_ := blk_frozen HR5.out 4
      simp only [List.getElem?_toArray, List.getElem?_cons_zero, List.getElem?_cons_succ] at o0_ o1_ o2_ o3_ o4_
      obtain ⟨M, hM⟩ : ∃ M, runM m0 = M := ⟨_, rfl⟩
      rw [hM] at HRR HRT ⊢
      have HMM := Aside0.mk hM
      clear hM
      generalize M.tr.length = nt at *
      go_wp2_with fail
      have hp := put5_block HR5.out (.int .i64 M.err) (.int .i64 (atOf M)) (.int .i64 M.steps) (.slice Ar 32 cr) (.slice At nt ct)
      have hq1 := R_put5 HRR.out HR5.out (by decide) (.int .i64 M.err) (.int .i64 (atOf M)) (.int .i64 M.steps) (.slice Ar 32 cr) (.slice At nt ct)
      have hq2 := R_put5 HRT.out HR5.out (by decide) (.int .i64 M.err) (.int .i64 (atOf M)) (.int .i64 M.steps) (.slice Ar 32 cr) (.slice At nt ct)
      have hq3 := put5_below (.int .i64 M.err) (.int .i64 (atOf M)) (.int .i64 M.steps) (.slice Ar 32 cr) (.slice At nt ct) HB5.out (Nat.le_succ w.heap.size)
      unfold put5 at hp hq1 hq2 hq3
      refine bodyPost_ret (results_c (fn := Tryz.f13) (p := 2) (ty := 31) rfl _ _ (w.heap.size + 1) 31 #[.int .i64 M.err, .int .i64 (atOf M), .int .i64 M.steps, .slice Ar 32 cr, .slice At nt ct] (0, 0) _ rfl hp Tryz.underlying31 rfl (by kernel_rfl)) rfl ?_
      exact ⟨M, _, _, HMM.out.symm, rfl, hq1, hq2, hq3⟩
    · have hd2 : (it (i + 1) m0).done = false := by cases hq : (it (i + 1) m0).done with
        | true => exact absurd hq hd
        | false => rfl
      have hgk : gk ≠ 0 := fun e0 => by
        have h1 := HI2.out
        have h2 := it_done m0 HN.out (i + 1) (by omega)
        rw [h2] at hd
        exact hd HN.out
      obtain ⟨k1, hk1⟩ : ∃ k1, gk = k1 + 1 := ⟨gk - 1, by omega⟩
      subst hk1
      rw [hd2]
      clear hd hd2 hgk HBND HINV HN
      go_wp2_with fail
      go_roundg k1
      case measure => omega
      case rel => exact ⟨i + 1, t4, by have := HI2.out; omega, HG4, HB4⟩
end Go.Proofs.YtcgkgaibomcheaaGreat.ERun
end

section
/- Head: the live question. -/
namespace Go.Proofs.YtcgkgaibomcheaaGreat.Head
open Go.RowKit Go.Proofs.YtcgkgaibomcheaaGreat.Bits Go.Proofs.YtcgkgaibomcheaaGreat.Mac Go.Proofs.YtcgkgaibomcheaaGreat.Mb Go.Proofs.YtcgkgaibomcheaaGreat.Rd Go.Proofs.YtcgkgaibomcheaaGreat.RDec Go.Proofs.YtcgkgaibomcheaaGreat.EM Go.Proofs.YtcgkgaibomcheaaGreat.EOut Go.Proofs.YtcgkgaibomcheaaGreat.NewM Go.Proofs.YtcgkgaibomcheaaGreat.Pure Go.Proofs.YtcgkgaibomcheaaGreat.PRvemuRuns Go.Proofs.YtcgkgaibomcheaaGreatW.PrintWords Go.Proofs.YtcgkgaibomcheaaGreatW.PrintLast Go.Proofs.YtcgkgaibomcheaaGreatW.PrintMore
set_option linter.unusedVariables false
set_option linter.unusedSimpArgs false
set_option maxRecDepth 20000 in
theorem insn_reps (W : World) (b : Nat) (ok : Nat → Prop) : Reps (k42.M W b ok) 5 HeadP.insns [.int .i64 2, .int .i64 10, .int .i64 0, .int .i64 0, .int .i64 5, .int .i64 34, .int .i64 0, .int .i64 1, .int .i64 0, .int .i64 0] := Reps.c5 (k42_mkM W b ok ⟨2, 10, 0, 0, 5⟩) (Reps.c5 (k42_mkM W b ok ⟨34, 0, 1, 0, 0⟩) (Reps.none _ _))
set_option maxRecDepth 20000 in
theorem head (w : World) : Calls Tryz.prog 10 #[] w fun e w' => e = .returned (.bool true) ∧ Below w.heap.size w w' := by
  go_enter Tryz.func10, Tryz.ntmps10
  go_wp2_with (first | ((with_reducible refine gate_dst (N := 8) rfl ?_); refine Kd.R_lit k42 (w0 := w) w.heap.size 42 ?hg (N := 8) ?hd (xs := HeadP.insns) (inner := [.int .i64 2, .int .i64 10, .int .i64 0, .int .i64 0, .int .i64 5, .int .i64 34, .int .i64 0, .int .i64 1, .int .i64 0, .int .i64 0]) (ok := fun _ => True) (okp := fun _ => True) ?hr ?hp (fun _ hk => hk) trivial (Below.refl _ _) (Nat.le_refl _) (by simp [HeadP.insns]) ?_; (case hd => rfl); (case hg => rfl); (case hr => first | (go_simp; done) | (go_simp; rfl)); (case hp => exact insn_reps _ _ _); intro v8 w8 ho8 hb8 hgx_ hnx_; clear hgx_ hnx_; have HO8 := Aside0.mk ho8; have HB8 := Aside0.mk hb8; obtain ⟨A8, c8, e8, hc8, hC8⟩ := Kd.R_reads ho8; subst e8; have HC8 := Aside0.mk hC8; have HL8 := Aside0.mk hc8; clear ho8 hb8 hc8 hC8))
  have hl2 : HeadP.insns.length = 2 := rfl
  refine (ravelinref15_Bytes.calls 200 A8 c8 HeadP.insns HeadP.code 0 0 w8 HC8.out HL8.out HeadP.bytes).mono ?_
  rintro e w9 ⟨v9, rfl, hr9, hb9⟩
  obtain ⟨A9, c9, e9, hc9, hC9⟩ := Kd.R_reads hr9
  subst e9
  have HB9 := Aside0.mk (below_step HB8.out hb9)
  have HRUN := Aside0.mk (ERun.runs A9 none none none c9 0 0 0 HeadP.code [] [] [] 0 9 w9 hC9 (by decide) (Kd.R_reads' (Kd.R_nil (Kd.int .u8) 5 w9 0 (fun _ => True))).2.2 (Kd.R_reads' (Kd.R_nil (Kd.int .u64) 52 w9 0 (fun _ => True))).2.2 (Kd.R_reads' (Kd.R_nil (Kd.int .u8) 5 w9 0 (fun _ => True))).2.2 (by intro x hx; revert x; decide) (fun x hx => by cases hx) (fun x hx => by cases hx) (fun x hx => by cases hx) (by decide))
  clear hr9 hb9 hc9 hC9 hl2 HC8 HL8 HO8
  go_wp2_with fail
  refine HRUN.out.mono ?_
  rintro e w10 ⟨m, vr, vt, hm, rfl, hr, ht, hb10⟩
  have hh := HeadP.run
  have hm' : m = runM HeadP.m0 := hm
  rw [← hm'] at hh
  obtain ⟨h1, h2, h3⟩ := hh
  have hat : atOf m = 0 := if_pos h1
  obtain ⟨gr, cr, ear, _, _, _⟩ := Kd.R_form hr (by rw [regs_len]; omega)
  obtain ⟨At, ct, eat⟩ := Kd.R_slice ht
  rw [regs_len] at ear
  subst ear eat
  obtain ⟨ad, e4, h4⟩ := Kd.at_int (Kd.R_reads' hr).2.2 10 (by omega) (by rw [regs_len]; omega)
  injection e4 with e4
  subst e4
  have h5 : rd (regsOf m) 10 = 5 := by
    have e : (regsOf m).getD 10 0 = U (m.x 10) := rfl
    show (regsOf m).getD 10 0 = 5
    rw [e, h3]
    rfl
  rw [h5] at h4
  have x10 : w10.cell? ⟨gr, 10, none⟩ = some (.int .u64 5) := h4
  rw [h1, h2, hat]
  have HB10 := Aside0.mk (below_step HB9.out hb10)
  generalize m.tr.length = nt at *
  have y10 := fun (o : Obj) => kB (below_alloc (Below.refl w10.heap.size w10) o) x10
  have HZ := Aside0.mk (fun (o : Obj) => below_alloc HB10.out o)
  clear hr ht hb10 hm hm' h1 h2 h3 hat h4 h5 HRUN
  go_wp2_with fail
  go_ret
  exact ⟨rfl, HZ.out _⟩
end Go.Proofs.YtcgkgaibomcheaaGreat.Head
end

section
/- Fit. Conditions: none. -/
namespace Go.Proofs.YtcgkgaibomcheaaGreat.Fit
open Go.RowKit Go.Proofs.YtcgkgaibomcheaaGreat.Bits Go.Proofs.YtcgkgaibomcheaaGreat.Mb Go.Proofs.YtcgkgaibomcheaaGreat.Rd Go.Proofs.YtcgkgaibomcheaaGreat.RDec Go.Proofs.YtcgkgaibomcheaaGreat.EM Go.Proofs.YtcgkgaibomcheaaGreat.EOut Go.Proofs.YtcgkgaibomcheaaGreat.PRvemuRuns Go.Proofs.YtcgkgaibomcheaaGreatW.PrintWords Go.Proofs.YtcgkgaibomcheaaGreatW.PrintLast Go.Proofs.YtcgkgaibomcheaaGreatW.PrintMore
set_option linter.unusedVariables false
set_option linter.unusedSimpArgs false
def fitFr (fr : Int) : Int := if 65536 < fr ∧ fr ≤ 1048576 then Int.tmod fr 65536 else fr
def fitFu (fu : Int) : Int := if 2000 < fu then 2000 else fu
set_option maxRecDepth 20000 in
set_option maxHeartbeats 1000000 in
theorem fit (cA dA rA sA : Option Addr) (cc dc rc sc nC nD nR nS : Nat) (fr fu : Int) (w : World) :
    Calls Tryz.prog 11 #[.agg #[.slice cA nC cc, .slice dA nD dc, .slice rA nR rc, .slice sA nS sc, .int .i64 fr, .int .i64 fu]] w fun e w' => e = .returned (.agg #[.slice cA nC cc, .slice dA nD dc, .slice rA nR rc, .slice sA nS sc, .int .i64 (fitFr fr), .int .i64 (fitFu fu)]) ∧ Below w.heap.size w w' := by
  by_cases hfu : 2000 < fu
  · have t1 : decide (fu > 2000) = true := decide_eq_true hfu
    have u1 : (2000 < fu) = True := eq_true hfu
    have hq : fitFu fu = 2000 := if_pos hfu
    rw [hq]
    clear hq hfu
    by_cases h1 : 65536 < fr
    · have t2 : decide (fr > 65536) = true := decide_eq_true h1
      have u2 : (65536 < fr) = True := eq_true h1
      by_cases h2 : fr ≤ 1048576
      · have t3 : decide (fr ≤ 1048576) = true := decide_eq_true h2
        have u3 : (fr ≤ 1048576) = True := eq_true h2
        have hq : fitFr fr = Int.tmod fr 65536 := if_pos ⟨h1, h2⟩
        rw [hq]
        clear hq h1 h2
        go_enter Tryz.func11, Tryz.ntmps11
        go_wp2_with fail
        have hp : ((w.alloc (.cells #[.slice cA nC cc, .slice dA nD dc, .slice rA nR rc, .slice sA nS sc, .int .i64 (Int.tmod fr 65536), .int .i64 2000] 25)).alloc (.cells #[.slice cA nC cc, .slice dA nD dc, .slice rA nR rc, .slice sA nS sc, .int .i64 (Int.tmod fr 65536), .int .i64 2000] 25)).heap[w.heap.size + 1]? = some (.cells #[.slice cA nC cc, .slice dA nD dc, .slice rA nR rc, .slice sA nS sc, .int .i64 (Int.tmod fr 65536), .int .i64 2000] 25) := by
          have h := blk_new (w.alloc (.cells #[.slice cA nC cc, .slice dA nD dc, .slice rA nR rc, .slice sA nS sc, .int .i64 (Int.tmod fr 65536), .int .i64 2000] 25)) (.cells #[.slice cA nC cc, .slice dA nD dc, .slice rA nR rc, .slice sA nS sc, .int .i64 (Int.tmod fr 65536), .int .i64 2000] 25)
          rw [World.size_alloc] at h
          exact h
        refine bodyPost_ret (results_c (fn := Tryz.f11) (p := 2) (ty := 25) rfl _ _ (w.heap.size + 1) 25 #[.slice cA nC cc, .slice dA nD dc, .slice rA nR rc, .slice sA nS sc, .int .i64 (Int.tmod fr 65536), .int .i64 2000] (0, 0) _ rfl hp Tryz.underlying25 rfl (by kernel_rfl)) rfl ?_
        exact ⟨rfl, below_alloc (below_alloc (Below.refl _ _) _) _⟩
      · have t3 : decide (fr ≤ 1048576) = false := decide_eq_false h2
        have u3 : (fr ≤ 1048576) = False := eq_false h2
        have hq : fitFr fr = fr := if_neg (fun h => h2 h.2)
        rw [hq]
        clear hq h1 h2
        go_enter Tryz.func11, Tryz.ntmps11
        go_wp2_with fail
        have hp : ((w.alloc (.cells #[.slice cA nC cc, .slice dA nD dc, .slice rA nR rc, .slice sA nS sc, .int .i64 fr, .int .i64 2000] 25)).alloc (.cells #[.slice cA nC cc, .slice dA nD dc, .slice rA nR rc, .slice sA nS sc, .int .i64 fr, .int .i64 2000] 25)).heap[w.heap.size + 1]? = some (.cells #[.slice cA nC cc, .slice dA nD dc, .slice rA nR rc, .slice sA nS sc, .int .i64 fr, .int .i64 2000] 25) := by
          have h := blk_new (w.alloc (.cells #[.slice cA nC cc, .slice dA nD dc, .slice rA nR rc, .slice sA nS sc, .int .i64 fr, .int .i64 2000] 25)) (.cells #[.slice cA nC cc, .slice dA nD dc, .slice rA nR rc, .slice sA nS sc, .int .i64 fr, .int .i64 2000] 25)
          rw [World.size_alloc] at h
          exact h
        refine bodyPost_ret (results_c (fn := Tryz.f11) (p := 2) (ty := 25) rfl _ _ (w.heap.size + 1) 25 #[.slice cA nC cc, .slice dA nD dc, .slice rA nR rc, .slice sA nS sc, .int .i64 fr, .int .i64 2000] (0, 0) _ rfl hp Tryz.underlying25 rfl (by kernel_rfl)) rfl ?_
        exact ⟨rfl, below_alloc (below_alloc (Below.refl _ _) _) _⟩
    · have t2 : decide (fr > 65536) = false := decide_eq_false h1
      have u2 : (65536 < fr) = False := eq_false h1
      have hq : fitFr fr = fr := if_neg (fun h => h1 h.1)
      rw [hq]
      clear hq h1
      go_enter Tryz.func11, Tryz.ntmps11
      go_wp2_with fail
      have hp : ((w.alloc (.cells #[.slice cA nC cc, .slice dA nD dc, .slice rA nR rc, .slice sA nS sc, .int .i64 fr, .int .i64 2000] 25)).alloc (.cells #[.slice cA nC cc, .slice dA nD dc, .slice rA nR rc, .slice sA nS sc, .int .i64 fr, .int .i64 2000] 25)).heap[w.heap.size + 1]? = some (.cells #[.slice cA nC cc, .slice dA nD dc, .slice rA nR rc, .slice sA nS sc, .int .i64 fr, .int .i64 2000] 25) := by
        have h := blk_new (w.alloc (.cells #[.slice cA nC cc, .slice dA nD dc, .slice rA nR rc, .slice sA nS sc, .int .i64 fr, .int .i64 2000] 25)) (.cells #[.slice cA nC cc, .slice dA nD dc, .slice rA nR rc, .slice sA nS sc, .int .i64 fr, .int .i64 2000] 25)
        rw [World.size_alloc] at h
        exact h
      refine bodyPost_ret (results_c (fn := Tryz.f11) (p := 2) (ty := 25) rfl _ _ (w.heap.size + 1) 25 #[.slice cA nC cc, .slice dA nD dc, .slice rA nR rc, .slice sA nS sc, .int .i64 fr, .int .i64 2000] (0, 0) _ rfl hp Tryz.underlying25 rfl (by kernel_rfl)) rfl ?_
      exact ⟨rfl, below_alloc (below_alloc (Below.refl _ _) _) _⟩
  · have t1 : decide (fu > 2000) = false := decide_eq_false hfu
    have u1 : (2000 < fu) = False := eq_false hfu
    have hq : fitFu fu = fu := if_neg hfu
    rw [hq]
    clear hq hfu
    by_cases h1 : 65536 < fr
    · have t2 : decide (fr > 65536) = true := decide_eq_true h1
      have u2 : (65536 < fr) = True := eq_true h1
      by_cases h2 : fr ≤ 1048576
      · have t3 : decide (fr ≤ 1048576) = true := decide_eq_true h2
        have u3 : (fr ≤ 1048576) = True := eq_true h2
        have hq : fitFr fr = Int.tmod fr 65536 := if_pos ⟨h1, h2⟩
        rw [hq]
        clear hq h1 h2
        go_enter Tryz.func11, Tryz.ntmps11
        go_wp2_with fail
        have hp : ((w.alloc (.cells #[.slice cA nC cc, .slice dA nD dc, .slice rA nR rc, .slice sA nS sc, .int .i64 (Int.tmod fr 65536), .int .i64 fu] 25)).alloc (.cells #[.slice cA nC cc, .slice dA nD dc, .slice rA nR rc, .slice sA nS sc, .int .i64 (Int.tmod fr 65536), .int .i64 fu] 25)).heap[w.heap.size + 1]? = some (.cells #[.slice cA nC cc, .slice dA nD dc, .slice rA nR rc, .slice sA nS sc, .int .i64 (Int.tmod fr 65536), .int .i64 fu] 25) := by
          have h := blk_new (w.alloc (.cells #[.slice cA nC cc, .slice dA nD dc, .slice rA nR rc, .slice sA nS sc, .int .i64 (Int.tmod fr 65536), .int .i64 fu] 25)) (.cells #[.slice cA nC cc, .slice dA nD dc, .slice rA nR rc, .slice sA nS sc, .int .i64 (Int.tmod fr 65536), .int .i64 fu] 25)
          rw [World.size_alloc] at h
          exact h
        refine bodyPost_ret (results_c (fn := Tryz.f11) (p := 2) (ty := 25) rfl _ _ (w.heap.size + 1) 25 #[.slice cA nC cc, .slice dA nD dc, .slice rA nR rc, .slice sA nS sc, .int .i64 (Int.tmod fr 65536), .int .i64 fu] (0, 0) _ rfl hp Tryz.underlying25 rfl (by kernel_rfl)) rfl ?_
        exact ⟨rfl, below_alloc (below_alloc (Below.refl _ _) _) _⟩
      · have t3 : decide (fr ≤ 1048576) = false := decide_eq_false h2
        have u3 : (fr ≤ 1048576) = False := eq_false h2
        have hq : fitFr fr = fr := if_neg (fun h => h2 h.2)
        rw [hq]
        clear hq h1 h2
        go_enter Tryz.func11, Tryz.ntmps11
        go_wp2_with fail
        have hp : ((w.alloc (.cells #[.slice cA nC cc, .slice dA nD dc, .slice rA nR rc, .slice sA nS sc, .int .i64 fr, .int .i64 fu] 25)).alloc (.cells #[.slice cA nC cc, .slice dA nD dc, .slice rA nR rc, .slice sA nS sc, .int .i64 fr, .int .i64 fu] 25)).heap[w.heap.size + 1]? = some (.cells #[.slice cA nC cc, .slice dA nD dc, .slice rA nR rc, .slice sA nS sc, .int .i64 fr, .int .i64 fu] 25) := by
          have h := blk_new (w.alloc (.cells #[.slice cA nC cc, .slice dA nD dc, .slice rA nR rc, .slice sA nS sc, .int .i64 fr, .int .i64 fu] 25)) (.cells #[.slice cA nC cc, .slice dA nD dc, .slice rA nR rc, .slice sA nS sc, .int .i64 fr, .int .i64 fu] 25)
          rw [World.size_alloc] at h
          exact h
        refine bodyPost_ret (results_c (fn := Tryz.f11) (p := 2) (ty := 25) rfl _ _ (w.heap.size + 1) 25 #[.slice cA nC cc, .slice dA nD dc, .slice rA nR rc, .slice sA nS sc, .int .i64 fr, .int .i64 fu] (0, 0) _ rfl hp Tryz.underlying25 rfl (by kernel_rfl)) rfl ?_
        exact ⟨rfl, below_alloc (below_alloc (Below.refl _ _) _) _⟩
    · have t2 : decide (fr > 65536) = false := decide_eq_false h1
      have u2 : (65536 < fr) = False := eq_false h1
      have hq : fitFr fr = fr := if_neg (fun h => h1 h.1)
      rw [hq]
      clear hq h1
      go_enter Tryz.func11, Tryz.ntmps11
      go_wp2_with fail
      have hp : ((w.alloc (.cells #[.slice cA nC cc, .slice dA nD dc, .slice rA nR rc, .slice sA nS sc, .int .i64 fr, .int .i64 fu] 25)).alloc (.cells #[.slice cA nC cc, .slice dA nD dc, .slice rA nR rc, .slice sA nS sc, .int .i64 fr, .int .i64 fu] 25)).heap[w.heap.size + 1]? = some (.cells #[.slice cA nC cc, .slice dA nD dc, .slice rA nR rc, .slice sA nS sc, .int .i64 fr, .int .i64 fu] 25) := by
        have h := blk_new (w.alloc (.cells #[.slice cA nC cc, .slice dA nD dc, .slice rA nR rc, .slice sA nS sc, .int .i64 fr, .int .i64 fu] 25)) (.cells #[.slice cA nC cc, .slice dA nD dc, .slice rA nR rc, .slice sA nS sc, .int .i64 fr, .int .i64 fu] 25)
        rw [World.size_alloc] at h
        exact h
      refine bodyPost_ret (results_c (fn := Tryz.f11) (p := 2) (ty := 25) rfl _ _ (w.heap.size + 1) 25 #[.slice cA nC cc, .slice dA nD dc, .slice rA nR rc, .slice sA nS sc, .int .i64 fr, .int .i64 fu] (0, 0) _ rfl hp Tryz.underlying25 rfl (by kernel_rfl)) rfl ?_
      exact ⟨rfl, below_alloc (below_alloc (Below.refl _ _) _) _⟩
end Go.Proofs.YtcgkgaibomcheaaGreat.Fit
end

section
/- The law RvemuEnds. Conditions: the entry can be read. -/
namespace Go.Proofs.YtcgkgaibomcheaaGreat.EndsL
open Go.RowKit Go.Proofs.YtcgkgaibomcheaaGreat.Bits Go.Proofs.YtcgkgaibomcheaaGreat.Mac Go.Proofs.YtcgkgaibomcheaaGreat.Mb Go.Proofs.YtcgkgaibomcheaaGreat.Rd Go.Proofs.YtcgkgaibomcheaaGreat.RDec Go.Proofs.YtcgkgaibomcheaaGreat.EM Go.Proofs.YtcgkgaibomcheaaGreat.EOut Go.Proofs.YtcgkgaibomcheaaGreat.NewM Go.Proofs.YtcgkgaibomcheaaGreat.Pure Go.Proofs.YtcgkgaibomcheaaGreat.Goes Go.Proofs.YtcgkgaibomcheaaGreat.Fit Go.Proofs.YtcgkgaibomcheaaGreat.PRvemuRuns Go.Proofs.YtcgkgaibomcheaaGreatW.PrintWords Go.Proofs.YtcgkgaibomcheaaGreatW.PrintLast Go.Proofs.YtcgkgaibomcheaaGreatW.PrintMore
attribute [local go_sem] max2_int min2_int max_two min_two
set_option linter.unusedVariables false
set_option linter.unusedSimpArgs false
/-- An entry that can be read. -/
structure EnvAt (W : World) (cA dA rA sA : Option Addr) (cc dc rc sc : Nat) (lc ld ls lr : List Int) : Prop where
  hc : (Kd.int .u8).C W cA lc.length lc
  hcc : lc.length ≤ cc
  hlc : lc.length ≤ 140737488355328
  hd : (Kd.int .u8).C W dA ld.length ld
  hdc : ld.length ≤ dc
  hr : (Kd.int .u64).C W rA lr.length lr
  hrc : lr.length ≤ rc
  hs : (Kd.int .u8).C W sA ls.length ls
  hsc : ls.length ≤ sc
  bc : isBytes lc
  bd : isBytes ld
  bs : isBytes ls
  wr : isWords lr
theorem EnvAt.below {W W' : World} {cA dA rA sA : Option Addr} {cc dc rc sc : Nat} {lc ld ls lr : List Int} (h : EnvAt W cA dA rA sA cc dc rc sc lc ld ls lr) (hb : Below W.heap.size W W') : EnvAt W' cA dA rA sA cc dc rc sc lc ld ls lr :=
  ⟨Kd.C_below h.hc hb, h.hcc, h.hlc, Kd.C_below h.hd hb, h.hdc, Kd.C_below h.hr hb, h.hrc, Kd.C_below h.hs hb, h.hsc, h.bc, h.bd, h.bs, h.wr⟩
theorem fitFu_le (fu : Int) : fitFu fu ≤ 1000000 := by unfold fitFu; split <;> omega
theorem facts (lc ld lr ls : List Int) (fr fu : Int) {m : Mac} (hm : m = runM (newM lc ld lr ls fr fu)) : 0 ≤ m.steps ∧ m.steps ≤ mx 0 fu ∧ U (m.x 0) = 0 ∧ (m.err = 0 → atOf m = 0) := by
  have h := inv_it (inv_new lc ld lr ls fr fu) ((newM lc ld lr ls fr fu).fuel.toNat + 1)
  have e : it ((newM lc ld lr ls fr fu).fuel.toNat + 1) (newM lc ld lr ls fr fu) = m := hm.symm
  rw [e] at h
  have h1 := h.steps
  have h2 := h.max
  have h3 := h.fuel
  have h4 := h.x0
  rw [new_fuel] at h3
  rw [new_x0] at h4
  refine ⟨h1, ?_, by rw [h4]; rfl, fun he => if_pos he⟩
  unfold mx
  split <;> omega
set_option maxRecDepth 20000 in
set_option maxHeartbeats 1000000 in
theorem walk (cA dA rA sA : Option Addr) (cc dc rc sc : Nat) (lc ld ls lr : List Int) (fr fu : Int) (w : World) (h : EnvAt w cA dA rA sA cc dc rc sc lc ld ls lr) :
    Calls Tryz.prog 6 #[.agg #[.slice cA lc.length cc, .slice dA ld.length dc, .slice rA lr.length rc, .slice sA ls.length sc, .int .i64 fr, .int .i64 fu]] w fun e w' => e = .returned (.bool true) ∧ Below w.heap.size w w' := by
  have hbA := below_alloc (Below.refl w.heap.size w) (.cells #[.slice cA lc.length cc, .slice dA ld.length dc, .slice rA lr.length rc, .slice sA ls.length sc, .int .i64 fr, .int .i64 fu] 25)
  have HA := Aside0.mk (blk_new w (.cells #[.slice cA lc.length cc, .slice dA ld.length dc, .slice rA lr.length rc, .slice sA ls.length sc, .int .i64 fr, .int .i64 fu] 25))
  have HE := Aside0.mk h
  have HB := Aside0.mk hbA
  clear h hbA
  go_enter Tryz.func6, Tryz.ntmps6
  go_wp2_with fail
  refine (Head.head _).mono ?_
  rintro e w1 ⟨rfl, hb1⟩
  have HA1 := Aside0.mk (blk_below HA.out hb1)
  have HB1 := Aside0.mk (below_step HB.out hb1)
  have z0 := blk_cell HA1.out 0
  have z1 := blk_cell HA1.out 1
  have z2 := blk_cell HA1.out 2
  have z3 := blk_cell HA1.out 3
  have z4 := blk_cell HA1.out 4
  have z5 := blk_cell HA1.out 5
  simp only [List.getElem?_toArray, List.getElem?_cons_zero, List.getElem?_cons_succ] at z0 z1 z2 z3 z4 z5
  clear hb1 HA HB
  go_wp2_with fail
  refine (Fit.fit cA dA rA sA cc dc rc sc _ _ _ _ fr fu _).mono ?_
  rintro e w2 ⟨rfl, hb2⟩
  have HB2 := Aside0.mk (below_step HB1.out hb2)
  have HF := Aside0.mk (fitFu_le fu)
  generalize fitFr fr = fr2 at *
  generalize fitFu fu = fu2 at *
  clear hb2 z0 z1 z2 z3 z4 z5 HA1 HB1
  have HRUN := Aside0.mk (show ∀ W, Below w.heap.size w W → _ from fun W hb => ERun.runs cA dA rA sA cc dc rc sc lc ld ls lr fr2 fu2 W (HE.out.below hb).hc HE.out.hlc (HE.out.below hb).hd (HE.out.below hb).hr (HE.out.below hb).hs HE.out.bc HE.out.bd HE.out.bs HE.out.wr HF.out)
  go_wp2_with fail
  refine (HRUN.out _ (below_alloc HB2.out _)).mono ?_
  rintro e w10 ⟨m, vr, vt, hm, rfl, hr, ht, hb10⟩
  obtain ⟨f1, f2, f3, f4⟩ := facts lc ld lr ls fr2 fu2 hm
  obtain ⟨gr, cr, ear, _, _, _⟩ := Kd.R_form hr (by rw [regs_len]; omega)
  obtain ⟨At, ct, eat⟩ := Kd.R_slice ht
  rw [regs_len] at ear
  subst ear eat
  obtain ⟨ad, e4, h4⟩ := Kd.at_int (Kd.R_reads' hr).2.2 0 (by omega) (by rw [regs_len]; omega)
  injection e4 with e4
  subst e4
  have h5 : rd (regsOf m) 0 = 0 := by
    have e : (regsOf m).getD 0 0 = U (m.x 0) := rfl
    show (regsOf m).getD 0 0 = 0
    rw [e, f3]
  rw [h5] at h4
  have x10 : w10.cell? ⟨gr, 0, none⟩ = some (.int .u64 0) := h4
  have HB10 := Aside0.mk (below_step (below_alloc HB2.out _) hb10)
  have HZ := Aside0.mk (fun (o : Obj) => below_alloc HB10.out o)
  have y10 := fun (o : Obj) => kB (below_alloc (Below.refl w10.heap.size w10) o) x10
  have hE := blk_below (blk_new w2 (.cells #[.slice cA lc.length cc, .slice dA ld.length dc, .slice rA lr.length rc, .slice sA ls.length sc, .int .i64 fr2, .int .i64 fu2] 25)) hb10
  have z5 : w10.cell? ⟨w2.heap.size, 5, none⟩ = some (.int .i64 fu2) := (blk_cell hE 5).trans (by simp)
  have z5o := fun (o : Obj) => kB (below_alloc (Below.refl w10.heap.size w10) o) z5
  have t1 : decide (m.steps ≥ 0) = true := decide_eq_true f1
  have t2 : decide (m.steps ≤ mx 0 fu2) = true := decide_eq_true f2
  have u1 : (0 ≤ m.steps) = True := eq_true f1
  have u2 : (m.steps ≤ mx 0 fu2) = True := eq_true f2
  have HOM := Aside0.mk (show 0 ≤ m.steps ∧ (0 < fu2 → m.steps ≤ fu2) ∧ (fu2 ≤ 0 → m.steps ≤ 0) from by unfold mx at f2; split at f2 <;> exact ⟨f1, fun h => by omega, fun h => by omega⟩)
  have hc : m.err ≠ 0 ∨ atOf m = 0 := by
    by_cases h : m.err = 0
    · exact .inr (f4 h)
    · exact .inl h
  clear f1 f2 f3 f4 hr ht hb10 hE HRUN h4 h5 hm HB2 HE HF
  generalize m.tr.length = nt at *
  generalize m.steps = st at *
  generalize atOf m = at_ at *
  generalize m.err = er at *
  by_cases he : er = 0
  · subst he
    have ha : at_ = 0 := hc.resolve_left (fun h => h rfl)
    subst ha
    clear hc
    go_wp2_with fail
    all_goals first | (go_ret; exact ⟨rfl, HZ.out _⟩) | (exfalso; obtain ⟨o1, o2, o3⟩ := HOM.out; omega)
  · have q1 : (er != 0) = true := bne_iff_ne.2 he
    have q2 : (er == 0) = false := beq_eq_false_iff_ne.2 he
    clear he hc
    go_wp2_with fail
    all_goals first | (go_ret; exact ⟨rfl, HZ.out _⟩) | (exfalso; obtain ⟨o1, o2, o3⟩ := HOM.out; omega)
end Go.Proofs.YtcgkgaibomcheaaGreat.EndsL
end

section
/- How an entry opens: four slices and two numbers. Conditions: the argument reads as an entry. -/
namespace Go.Proofs.YtcgkgaibomcheaaGreat.OpenEnv
open Go.ChangeShapes Go.WideShapes Go.RowKit Go.Deep Go.Joins Go.Proofs.YtcgkgaibomcheaaGreatW.PrintWords
set_option linter.unusedVariables false
theorem slice_cell {α : Type} {d : Kd α} {H : Type} {enc : TypeId × Value → H} {P : Program} {W : World} {t e : TypeId} {v : Value} {D : DataW H} {p : List MemPlace}
    {ts : List TypeId} {ds : List (DataW H)} {j : Nat} (good : α → Prop)
    (hsz : (DataW.weightsEach P ts ds).all (· ≤ reachBytes) = true) (hts : ts[j]? = some t) (hds : ds[j]? = some D)
    (ht : P.underlying t = some (.slice e)) (hC : P.cellsOf e = d.sz)
    (el : ∀ (fuel : Nat) (cs : List Value) (x : DataW H × List MemPlace), DataW.trod enc P W 0 (fun _ => true) true fuel e cs = some x → ∃ y, d.K W y cs ∧ good y)
    {fuel : Nat} (hf : DataW.trod enc P W 0 (fun _ => true) true fuel t [v] = some (D, p)) :
    ∃ (A : Option Addr) (cap : Nat) (xs : List α), v = .slice A xs.length cap ∧ xs.length ≤ cap ∧ cap ≤ maxLen ∧ cap * P.bytesOf e ≤ reachBytes ∧ d.C W A xs.length xs ∧ (∀ x ∈ xs, good x) := by
  rcases open_slice ht hf with ⟨hcs, hx⟩ | ⟨a, len0, cap0, m, n, Df, Pl, hcs, hb, hl, hm, hmm, hx, hel⟩
  · obtain rfl : v = _ := (List.cons.inj hcs).1
    exact ⟨none, 0, [], rfl, Nat.le_refl _, by unfold maxLen; omega, by simp, Kd.C_nil d W, by simp⟩
  · obtain rfl : v = _ := (List.cons.inj hcs).1
    simp only [if_true] at hmm
    subst hmm
    have ex : ∀ i : Fin len0, ∃ y, good y ∧ ∃ cs', W.cells? 0 (a.add (i.1 * P.cellsOf e)) (P.cellsOf e) = some cs' ∧ d.K W y cs' := by
      intro i
      obtain ⟨cs', hc, htr⟩ := hel i.1 (by have := i.2; omega)
      obtain ⟨y, hk, hg⟩ := el _ _ _ htr
      exact ⟨y, hg, cs', hc, hk⟩
    have hD : D = .slice ((List.range len0).map Df) ((List.range (m - len0)).map fun j => Df (len0 + j)) := (Prod.mk.inj hx).1
    have hz := sized_slice hsz hts (by rw [hds, hD]) ht
    refine ⟨some a, m, List.ofFn fun i => Classical.choose (ex i), by simp, by simpa using hl, hm, ?_, ?_, ?_⟩
    · have e1 : ((List.range len0).map Df).length + ((List.range (m - len0)).map fun j => Df (len0 + j)).length = m := by simp; omega
      rwa [e1] at hz
    · refine ⟨by simp, by simp; unfold maxLen at hm; omega, fun _ => ⟨a, rfl, fun j q hj => ?_⟩⟩
      obtain ⟨hjl, hjq⟩ := List.getElem?_eq_some_iff.1 hj
      have hjl' : j < len0 := by simpa using hjl
      rw [List.getElem_ofFn] at hjq
      obtain ⟨_, cs', hc, hk⟩ := Classical.choose_spec (ex ⟨j, hjl'⟩)
      subst hjq
      obtain ⟨_, hcl, hat⟩ := World.cells?_some hc
      refine ⟨cs', by rw [hcl, hC], hk, fun i u hi => ?_⟩
      have hil : i < P.cellsOf e := by
        rw [← hcl]
        exact (List.getElem?_eq_some_iff.1 hi).1
      rw [← hC, ← Go.Deep.add_add, hat i hil, hi]
    · intro x hx
      obtain ⟨i, hi⟩ := (List.mem_ofFn).1 hx
      rw [← hi]
      exact (Classical.choose_spec (ex i)).1

open Go.Proofs.YtcgkgaibomcheaaGreat.Bits Go.Proofs.YtcgkgaibomcheaaGreat.NewM Go.Proofs.YtcgkgaibomcheaaGreat.EndsL
theorem byte_elem {H : Type} {enc : TypeId × Value → H} {W : World} (fuel : Nat) (cs : List Value) (x : DataW H × List MemPlace) (h : DataW.trod enc Tryz.prog W 0 (fun _ => true) true fuel 5 cs = some x) :
    ∃ y, (Kd.int .u8).K W y cs ∧ (0 ≤ y ∧ y < 256) := by
  obtain ⟨n, rfl, _, hw⟩ := DataW.trod_int Tryz.underlying5 h
  refine ⟨n, rfl, ?_⟩
  have h' : 0 ≤ n ∧ n ≤ 255 := by simpa [Lit.wf, IntKind.min, IntKind.max, IntKind.bits, IntKind.signed] using hw
  omega
theorem word_elem {H : Type} {enc : TypeId × Value → H} {W : World} (fuel : Nat) (cs : List Value) (x : DataW H × List MemPlace) (h : DataW.trod enc Tryz.prog W 0 (fun _ => true) true fuel 52 cs = some x) :
    ∃ y, (Kd.int .u64).K W y cs ∧ (0 ≤ y ∧ y < 18446744073709551616) := by
  obtain ⟨n, rfl, _, hw⟩ := DataW.trod_int Tryz.underlying52 h
  refine ⟨n, rfl, ?_⟩
  have h' : 0 ≤ n ∧ n ≤ 18446744073709551615 := by simpa [Lit.wf, IntKind.min, IntKind.max, IntKind.bits, IntKind.signed] using hw
  omega
set_option maxRecDepth 100000 in
theorem open_env {H : Type} {enc : TypeId × Value → H} {W : World} {v : Value} {D : DataW H} {p : List MemPlace} {r : Reach} (ho : Value.okWide Tryz.prog W r 0 25 v) (h : DataW.Trod enc Tryz.prog W 0 (fun _ => true) true 25 v D p) (hw : (D.weights Tryz.prog 25).all (· ≤ reachBytes) = true) :
    ∃ (cA dA rA sA : Option Addr) (cc dc rc sc : Nat) (lc ld ls lr : List Int) (fr fu : Int), v = .agg #[.slice cA lc.length cc, .slice dA ld.length dc, .slice rA lr.length rc, .slice sA ls.length sc, .int .i64 fr, .int .i64 fu] ∧ EnvAt W cA dA rA sA cc dc rc sc lc ld ls lr ∧ cc ≤ reachBytes ∧ dc ≤ reachBytes ∧ rc * 8 ≤ reachBytes ∧ sc ≤ reachBytes ∧ (Lit.int .i64 fr).wf = true ∧ (Lit.int .i64 fu).wf = true := by
  have c25 : Tryz.prog.cellsOf 25 = 6 := by kernel_rfl
  have c22 : Tryz.prog.cellsOf 22 = 1 := by kernel_rfl
  have c23 : Tryz.prog.cellsOf 23 = 1 := by kernel_rfl
  have c3 : Tryz.prog.cellsOf 3 = 1 := by kernel_rfl
  have b5 : Tryz.prog.bytesOf 5 = 1 := by kernel_rfl
  have b52 : Tryz.prog.bytesOf 52 = 8 := by kernel_rfl
  obtain ⟨cs, rfl, hsz⟩ := okWide_struct Tryz.underlying25 ho
  obtain ⟨l⟩ := cs
  have hl : l.length = 6 := by rw [c25] at hsz; simpa using hsz
  obtain ⟨fuel, hf⟩ := h
  obtain ⟨xs, n, _, hD, _, hxl, hg⟩ := DataW.trod_struct Tryz.underlying25 hf
  match l, hl with
  | [v0, v1, v2, v3, v4, v5], _ =>
    have hx : xs.length = 6 := hxl
    match xs, hx with
    | [x0, x1, x2, x3, x4, x5], _ =>
      have hD1 : D = .agg [x0.1, x1.1, x2.1, x3.1, x4.1, x5.1] := congrArg Prod.fst hD
      have hw2 : (DataW.weightsEach Tryz.prog [22, 22, 23, 22, 3, 3] [x0.1, x1.1, x2.1, x3.1, x4.1, x5.1]).all (· ≤ reachBytes) = true := by
        rw [hD1] at hw
        simp only [DataW.weights, Tryz.underlying25] at hw
        exact hw
      have g0 : DataW.trod enc Tryz.prog W 0 (fun _ => true) true n 22 [v0] = some x0 := by
        have t : DataW.trod enc Tryz.prog W 0 (fun _ => true) true n 22 (List.take (Tryz.prog.cellsOf 22) (List.drop 0 [v0, v1, v2, v3, v4, v5])) = some x0 := hg 0 _ rfl
        rw [c22] at t
        exact t
      have g1 : DataW.trod enc Tryz.prog W 0 (fun _ => true) true n 22 [v1] = some x1 := by
        have t : DataW.trod enc Tryz.prog W 0 (fun _ => true) true n 22 (List.take (Tryz.prog.cellsOf 22) (List.drop 1 [v0, v1, v2, v3, v4, v5])) = some x1 := hg 1 _ rfl
        rw [c22] at t
        exact t
      have g2 : DataW.trod enc Tryz.prog W 0 (fun _ => true) true n 23 [v2] = some x2 := by
        have t : DataW.trod enc Tryz.prog W 0 (fun _ => true) true n 23 (List.take (Tryz.prog.cellsOf 23) (List.drop 2 [v0, v1, v2, v3, v4, v5])) = some x2 := hg 2 _ rfl
        rw [c23] at t
        exact t
      have g3 : DataW.trod enc Tryz.prog W 0 (fun _ => true) true n 22 [v3] = some x3 := by
        have t : DataW.trod enc Tryz.prog W 0 (fun _ => true) true n 22 (List.take (Tryz.prog.cellsOf 22) (List.drop 3 [v0, v1, v2, v3, v4, v5])) = some x3 := hg 3 _ rfl
        rw [c22] at t
        exact t
      have g4 : DataW.trod enc Tryz.prog W 0 (fun _ => true) true n 3 [v4] = some x4 := by
        have t : DataW.trod enc Tryz.prog W 0 (fun _ => true) true n 3 (List.take (Tryz.prog.cellsOf 3) (List.drop 4 [v0, v1, v2, v3, v4, v5])) = some x4 := hg 4 _ rfl
        rw [c3] at t
        exact t
      have g5 : DataW.trod enc Tryz.prog W 0 (fun _ => true) true n 3 [v5] = some x5 := by
        have t : DataW.trod enc Tryz.prog W 0 (fun _ => true) true n 3 (List.take (Tryz.prog.cellsOf 3) (List.drop 5 [v0, v1, v2, v3, v4, v5])) = some x5 := hg 5 _ rfl
        rw [c3] at t
        exact t
      obtain ⟨cA, cc, lc, rfl, a1, _, a2, a3, a4⟩ := slice_cell (d := Kd.int .u8) (fun x => 0 ≤ x ∧ x < 256) hw2 (j := 0) rfl rfl Tryz.underlying22 (by kernel_rfl) byte_elem g0
      obtain ⟨dA, dc, ld, rfl, b1, _, b2, b3, b4⟩ := slice_cell (d := Kd.int .u8) (fun x => 0 ≤ x ∧ x < 256) hw2 (j := 1) rfl rfl Tryz.underlying22 (by kernel_rfl) byte_elem g1
      obtain ⟨rA, rc, lr, rfl, e1, _, e2, e3, e4⟩ := slice_cell (d := Kd.int .u64) (fun x => 0 ≤ x ∧ x < 18446744073709551616) hw2 (j := 2) rfl rfl Tryz.underlying23 (by kernel_rfl) word_elem g2
      obtain ⟨sA, sc, ls, rfl, f1, _, f2, f3, f4⟩ := slice_cell (d := Kd.int .u8) (fun x => 0 ≤ x ∧ x < 256) hw2 (j := 3) rfl rfl Tryz.underlying22 (by kernel_rfl) byte_elem g3
      obtain ⟨fr, rfl, w4⟩ := Args.int_cell Tryz.underlying3 g4
      obtain ⟨fu, rfl, w5⟩ := Args.int_cell Tryz.underlying3 g5
      rw [b5, Nat.mul_one] at a2 b2 f2
      rw [b52] at e2
      have hrb : reachBytes = 140737488351232 := rfl
      exact ⟨cA, dA, rA, sA, cc, dc, rc, sc, lc, ld, ls, lr, fr, fu, rfl, ⟨a3, a1, by omega, b3, b1, e3, e1, f3, f1, a4, b4, f4, e4⟩, a2, b2, e2, f2, w4, w5⟩
end Go.Proofs.YtcgkgaibomcheaaGreat.OpenEnv
end

section
/- The given row of RvemuEnds, proved: for every entry the law returns true, and its argument reads as it read before. Conditions: none beyond those of the row. -/
namespace Go.Proofs.YtcgkgaibomcheaaGreat.rvemuEnds
open Go.ChangeShapes Go.WideShapes Go.ChangeAt Go.RowKit Go.Deep Go.Joins
open Go.ChangeMaps (open_string shut_string)
set_option linter.unusedVariables false
set_option linter.unusedSimpArgs false
theorem own : ownKnob Tryz.prog.godebug = none := by kernel_rfl
theorem laidOut : laidOutB Tryz.prog = true := by kernel_rfl
set_option maxRecDepth 100000 in
theorem law {H : Type} {enc : TypeId × Value → H} (W : World) (v0 : Value) (d0 : DataW H) (p0 : List MemPlace) (h0 : DataW.Trod enc Tryz.prog W 0 (fun _ => true) true 25 v0 d0 p0) (o0 : Value.okWide Tryz.prog W .any 0 25 v0) (hsz : (DataW.weightsEach Tryz.prog [25] [d0]).all (· ≤ reachBytes) = true) :
    Calls Tryz.prog 6 #[v0] W fun e w' => e = .returned (.bool true) ∧ Below W.heap.size W w' := by
  have hw : (d0.weights Tryz.prog 25).all (· ≤ reachBytes) = true := by
    simpa [DataW.weightsEach] using hsz
  obtain ⟨cA, dA, rA, sA, cc, dc, rc, sc, lc, ld, ls, lr, fr, fu, rfl, he, _, _, _, _, _, _⟩ := OpenEnv.open_env o0 h0 hw
  exact EndsL.walk cA dA rA sA cc dc rc sc lc ld ls lr fr fu W he
set_option maxRecDepth 100000 in
theorem lifted (os : Os) (started : os.Started) (H : Type) (enc : TypeId × Value → H) :
    ReturnsInHanded {} Tryz.checked os 6 .any (Rows.rvemuEndsSpec.pre6 enc Tryz.prog Tryz.f6 Rows.rvemuEndsRow.domain false) (Rows.rvemuEndsSpec.post enc Tryz.prog Tryz.f6 false true false false) := by
  refine returnsInHanded_of_change_sized (C := Tryz.checked) own started (by kernel_rfl) Tryz.func6
    (ChangeSpec.witness6 (enc := enc) (C := Tryz.checked) false ⟨#[], #[.agg #[.slice none 0 0, .slice none 0 0, .slice none 0 0, .slice none 0 0, .int .i64 0, .int .i64 0]], []⟩ 8 (by kernel_rfl) (by kernel_rfl) (by kernel_rfl) (by kernel_rfl)) ?_
  intro W base args ds gs before hval0 hW hcnd hsz0 _
  have hsz : (DataW.weightsEach Tryz.prog (Tryz.f6.params.toList ++ Rows.rvemuEndsSpec.plain.varTypes Tryz.prog) (ds ++ gs)).all (· ≤ reachBytes) = true := hsz0
  have hval : ∀ (j : Nat) t v, Tryz.f6.params[j]? = some t → args[j]? = some v → Value.okWide Tryz.prog W .any base t v := hval0
  have hW' := hW
  obtain ⟨p, q, hA0, hV, rfl, hfz, hnd⟩ := hW
  have hA : DataW.TrodAll enc Tryz.prog W 0 (fun _ => true) true Tryz.f6.params.toList args.toList ds p := hA0
  rw [Tryz.params6] at hA hval hsz
  obtain ⟨v0, vs0, d0, ds0, p0, q0, hargs, rfl, rfl, h0, r0⟩ := trodAll_cons hA
  obtain ⟨rfl, rfl, rfl⟩ := trodAll_nil r0
  obtain rfl : args = #[v0] := by cases args; simp_all
  obtain ⟨rfl, rfl⟩ := trodVars_none hV
  have k0 := h0
  have lt0 : ∀ x ∈ p0, x.block < W.heap.size := by obtain ⟨m, hm⟩ := k0; exact DataW.trod_lt m _ _ _ hm
  refine (law (enc := enc) W v0 d0 p0 h0 (hval 0 25 v0 rfl rfl) hsz).mono fun e W' ⟨he, bel⟩ => ?_
  subst he
  exact ⟨_, rfl, _, _, _, [], _, [], hW', trodAll_mk1 (shut_bool Tryz.underlying4 _), (trodAll_cons_mk (Below.trod laidOut (by kernel_rfl) (of_decide_eq_true (by kernel_rfl)) k0 bel lt0) trodAll_mk0), rfl, bel.frame _, fun h => by cases h⟩
theorem over : Rows.rvemuEndsRow.holds Tryz.pinned (OpenSpec.ofChange Rows.rvemuEndsSpec) :=
  OpenClaim.holds_of_wide 6 Tryz.f6 rfl rfl rfl rfl rfl rfl rfl ⟨rfl, rfl, rfl, rfl, rfl⟩ rfl rfl rfl rfl rfl (by kernel_rfl) Tryz.func6 (by kernel_rfl)
    (of_decide_eq_true (by kernel_rfl)) (by unfold Func.isWrapper; first | (rw [if_pos (by decide +kernel)]; kernel_rfl) | (rw [if_neg (by decide +kernel)]; exact ⟨rfl, rfl⟩))
    (fun os started H enc _ => lifted os started H enc)
end Go.Proofs.YtcgkgaibomcheaaGreat.rvemuEnds
namespace Go.Proofs.YtcgkgaibomcheaaGreat
/-- The row, under a short name, for the claim. -/
theorem rvemuEnds_holds : Rows.RvemuEndsSaid := rvemuEnds.over
end Go.Proofs.YtcgkgaibomcheaaGreat
end

section
/- How a list of instructions opens. Conditions: the argument reads as one. -/
namespace Go.Proofs.YtcgkgaibomcheaaGreat.OpenRv
open Go.ChangeShapes Go.WideShapes Go.RowKit Go.Deep Go.Joins Go.Proofs.YtcgkgaibomcheaaGreat.PRvemuRuns Go.Proofs.YtcgkgaibomcheaaGreatW.PrintWords
set_option linter.unusedVariables false
/-- An instruction that its own kinds hold. -/
def Rv64 (x : S42) : Prop := (-9223372036854775808 ≤ x.f0 ∧ x.f0 ≤ 9223372036854775807)
theorem elem {H : Type} {enc : TypeId × Value → H} {W : World} (fuel : Nat) (cs : List Value) (x : DataW H × List MemPlace) (h : DataW.trod enc Tryz.prog W 0 (fun _ => true) true fuel 42 cs = some x) :
    ∃ y : S42, k42.K W y cs ∧ Rv64 y := by
  obtain ⟨hlen, hf⟩ := Args.struct_cells Tryz.underlying42 (by kernel_rfl) (by kernel_rfl) h
  obtain ⟨u0, y0, n0, e0, t0⟩ := hf 0 _ rfl
  obtain ⟨u1, y1, n1, e1, t1⟩ := hf 1 _ rfl
  obtain ⟨u2, y2, n2, e2, t2⟩ := hf 2 _ rfl
  obtain ⟨u3, y3, n3, e3, t3⟩ := hf 3 _ rfl
  obtain ⟨u4, y4, n4, e4, t4⟩ := hf 4 _ rfl
  obtain ⟨a0, rfl, w0⟩ := Args.int_cell Tryz.underlying40 t0
  obtain ⟨a1, rfl, w1⟩ := Args.int_cell Tryz.underlying3 t1
  obtain ⟨a2, rfl, w2⟩ := Args.int_cell Tryz.underlying3 t2
  obtain ⟨a3, rfl, w3⟩ := Args.int_cell Tryz.underlying3 t3
  obtain ⟨a4, rfl, w4⟩ := Args.int_cell Tryz.underlying3 t4
  have hcs : cs = [.int .i64 a0, .int .i64 a1, .int .i64 a2, .int .i64 a3, .int .i64 a4] := by
    match cs, hlen with
    | [c0, c1, c2, c3, c4], _ => simp_all
  have h' : -9223372036854775808 ≤ a0 ∧ a0 ≤ 9223372036854775807 := by simpa [Lit.wf, IntKind.min, IntKind.max, IntKind.bits, IntKind.signed] using w0
  refine ⟨⟨a0, a1, a2, a3, a4⟩, ?_, h'⟩
  rw [hcs]
  exact k42_mk W _
set_option maxRecDepth 100000 in
theorem open_list {H : Type} {enc : TypeId × Value → H} {W : World} {v : Value} {D : DataW H} {p : List MemPlace} {ts : List TypeId} {ds : List (DataW H)} (hsz : (DataW.weightsEach Tryz.prog ts ds).all (· ≤ reachBytes) = true) {j : Nat} (hts : ts[j]? = some 36) (hds : ds[j]? = some D) (o : Value.okWide Tryz.prog W .any 0 36 v) (h : DataW.Trod enc Tryz.prog W 0 (fun _ => true) true 36 v D p) :
    ∃ (A : Option Addr) (cap : Nat) (l : List S42), v = .slice A l.length cap ∧ l.length ≤ cap ∧ l.length * 40 ≤ 140737488351232 ∧ k42.C W A l.length l ∧ (∀ x ∈ l, Rv64 x) := by
  obtain ⟨A, cap, xs, rfl, hl, _, hz, hr, hg⟩ := Args.slice_reads (d := k42) Rv64 hsz hts hds Tryz.underlying36 (by kernel_rfl) elem o h
  have hz' : cap * 40 ≤ reachBytes := hz
  have hrb : reachBytes = 140737488351232 := rfl
  exact ⟨A, cap, xs, rfl, hl, by omega, hr, hg⟩
end Go.Proofs.YtcgkgaibomcheaaGreat.OpenRv
end

section
/- Which instructions have a word, and the bytes of a list of such: in plain numbers. No memory here. -/
namespace Go.Proofs.YtcgkgaibomcheaaGreat.FineP
open Go.RowKit Go.Proofs.YtcgkgaibomcheaaGreat.Bits Go.Proofs.YtcgkgaibomcheaaGreat.Dec Go.Proofs.YtcgkgaibomcheaaGreat.Find Go.Proofs.YtcgkgaibomcheaaGreat.Enc Go.Proofs.YtcgkgaibomcheaaGreat.PRvemuRuns Go.Proofs.YtcgkgaibomcheaaGreatW.PrintWords Go.Proofs.YtcgkgaibomcheaaGreatW.PrintLast Go.Proofs.YtcgkgaibomcheaaGreatW.PrintMore
set_option linter.unusedVariables false
set_option linter.unusedSimpArgs false

/-- A word, and how it ends. -/
def encV (x : S42) : Nat × Int :=
  if 1 ≤ x.f0 ∧ x.f0 ≤ 34 then (if regsOk x.f0.toNat x.f1 x.f2 x.f3 = true then (if fits (formOf x.f0.toNat) x.f4 = true then (encW x.f0.toNat x.f1 x.f2 x.f3 x.f4, 0) else (0, 152)) else (0, 151)) else (0, 153)
theorem rowsL_len : rowsL.length = 34 := by decide +kernel
theorem rowsL_op : ∀ i : Fin 34, 1 ≤ (rowsL.getD i.1 z59).f0 ∧ (rowsL.getD i.1 z59).f0 ≤ 34 := by decide +kernel
theorem find_l0 (v : Int) (hv : ¬ (1 ≤ v ∧ v ≤ 34)) : ∀ (j : Nat) (k : Nat) (i : Nat), i + j = 34 → j < k → ravelinref15_Find.l0 k v rowsL (i : Int) = some (0, 0, 0, 0, 0, (⟨#[]⟩ : ByteArray), false)
  | 0, k + 1, i, hi, _ => by
    obtain rfl : i = 34 := by omega
    unfold ravelinref15_Find.l0
    rw [if_neg (by rw [rowsL_len]; omega)]
  | j + 1, k + 1, i, hi, hk => by
    have ho := rowsL_op ⟨i, by omega⟩
    unfold ravelinref15_Find.l0
    rw [if_pos (by rw [rowsL_len]; omega), if_pos (by omega)]
    have e : rd_T59 rowsL (i : Int) = rowsL.getD i z59 := rfl
    rw [e, if_neg (by intro h; rw [h] at ho; exact hv ho)]
    have ew : wrap64 ((i : Int) + 1) = ((i + 1 : Nat) : Int) := by
      unfold wrap64
      omega
    rw [ew]
    exact find_l0 v hv j k (i + 1) (by omega) (by omega)
theorem find_no (k : Nat) (hk : 40 ≤ k) (v : Int) (hv : ¬ (1 ≤ v ∧ v ≤ 34)) : ravelinref15_Find.f k v = some (0, 0, 0, 0, 0, (⟨#[]⟩ : ByteArray), false) := find_l0 v hv 34 k 0 rfl (by omega)
theorem enc_all (k : Nat) (hk : 100 ≤ k) (x : S42) : ravelinref15_Encode.f k x.f0 x.f1 x.f2 x.f3 x.f4 = some (((encV x).1 : Int), (encV x).2) := by
  unfold encV
  by_cases h : 1 ≤ x.f0 ∧ x.f0 ≤ 34
  · rw [if_pos h]
    have e : x.f0 = ((x.f0.toNat : Nat) : Int) := by omega
    have h' := enc_eq k hk x.f0.toNat (by omega) (by omega) x.f1 x.f2 x.f3 x.f4
    rw [← e] at h'
    rw [h']
    split
    · split <;> rfl
    · rfl
  · rw [if_neg h]
    unfold ravelinref15_Encode.f
    rw [find_no _ (by omega) _ h]
    rfl
/-- Has it a word? -/
def okV (x : S42) : Bool := (encV x).2 == 0
theorem okV_eq {x : S42} (h : okV x = true) : (encV x).2 = 0 := beq_iff_eq.1 h
theorem okV_op {x : S42} (h : okV x = true) : 1 ≤ x.f0 ∧ x.f0 ≤ 34 ∧ (encV x).1 < 4294967296 ∧ hit x.f0.toNat (encV x).1 = true := by
  have h := okV_eq h
  unfold encV at h ⊢
  by_cases h1 : 1 ≤ x.f0 ∧ x.f0 ≤ 34
  · rw [if_pos h1] at h ⊢
    by_cases h2 : regsOk x.f0.toNat x.f1 x.f2 x.f3 = true
    · rw [if_pos h2] at h ⊢
      by_cases h3 : fits (formOf x.f0.toNat) x.f4 = true
      · rw [if_pos h3] at h ⊢
        have := hit_enc x.f0.toNat (by omega) (by omega) x.f1 x.f2 x.f3 x.f4 h2 h3
        exact ⟨h1.1, h1.2, this.1, this.2⟩
      · rw [if_neg h3] at h; exact absurd h (by decide)
    · rw [if_neg h2] at h; exact absurd h (by decide)
  · rw [if_neg h1] at h; exact absurd h (by decide)
/-- The bytes of a word. -/
def code4 (x : S42) : List Int := [((encV x).1 : Int) % 256, ((encV x).1 : Int) / 256 % 256, ((encV x).1 : Int) / 65536 % 256, ((encV x).1 : Int) / 16777216 % 256]
def codeL (l : List S42) : List Int := l.flatMap code4
theorem codeL_len (l : List S42) : (codeL l).length = 4 * l.length := by
  induction l with
  | nil => rfl
  | cons x l ih =>
    have e : codeL (x :: l) = code4 x ++ codeL l := rfl
    rw [e, List.length_append, ih, List.length_cons]
    show 4 + _ = _
    omega
theorem codeL_bytes (l : List S42) : isBytes (codeL l) := by
  intro b hb
  obtain ⟨x, _, hx⟩ := List.mem_flatMap.1 hb
  unfold code4 at hx
  simp only [List.mem_cons, List.not_mem_nil, or_false] at hx
  rcases hx with rfl | rfl | rfl | rfl <;> omega
theorem bytes_l0 (l : List S42) (hl : ∀ x ∈ l, okV x = true) (hn : 4 * l.length < 140737488355328) : ∀ (j : Nat) (k : Nat) (i : Nat), i + j = l.length → j + 101 ≤ k → ravelinref15_Bytes.l0 k l (codeL (l.take i)) (i : Int) = some (codeL l, 0, 0)
  | 0, k + 1, i, hi, _ => by
    obtain rfl : i = l.length := by omega
    unfold ravelinref15_Bytes.l0
    rw [if_neg (by omega), List.take_length]
  | j + 1, k + 1, i, hi, hk => by
    unfold ravelinref15_Bytes.l0
    have hil : i < l.length := by omega
    rw [if_pos (by omega), if_pos (by omega)]
    have e : rd_T42 l (i : Int) = l[i] := by
      show l.getD i z42 = _
      rw [List.getD_eq_getElem?_getD, List.getElem?_eq_getElem hil]
      rfl
    rw [e, enc_all k (by omega)]
    have h0 := okV_eq (hl _ (List.getElem_mem hil))
    simp only [Option.bind_some]
    rw [if_pos h0]
    have eq : codeL (l.take i) ++ code4 l[i] = codeL (l.take (i + 1)) := by
      rw [List.take_succ_eq_append_getElem hil]
      unfold codeL
      rw [List.flatMap_append]
      rfl
    have ew : wrap64 ((i : Int) + 1) = ((i + 1 : Nat) : Int) := by
      unfold wrap64
      omega
    have hlen : (codeL (l.take i)).length = 4 * i := by rw [codeL_len, List.length_take]; omega
    show (if (codeL (l.take i)).length + (code4 l[i]).length < 140737488355328 then _ else none) = _
    rw [hlen, if_pos (by show 4 * i + 4 < _; omega)]
    show ravelinref15_Bytes.l0 k l (codeL (l.take i) ++ code4 l[i]) _ = _
    rw [eq, ew]
    exact bytes_l0 l hl hn j k (i + 1) (by omega) (by omega)
theorem bytes_eq (l : List S42) (hl : ∀ x ∈ l, okV x = true) (hn : 4 * l.length < 140737488355328) : ravelinref15_Bytes.f (l.length + 101) l = some (codeL l, 0, 0) := bytes_l0 l hl hn l.length _ 0 (by omega) (by omega)
end Go.Proofs.YtcgkgaibomcheaaGreat.FineP
end
