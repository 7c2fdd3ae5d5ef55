/- Joined out of this claim's texts: EStep, RLoad, RStore, RM, RM2, RStep, Fill, NewM, NewE, NewR, Pure, Goes. Conditions: those of each theorem. -/
import Derived.Test.YtcgkgaibomcheaaGreatZB10
import Derived.Test.YtcgkgaibomcheaaGreatZB11
import Derived.Test.YtcgkgaibomcheaaGreatZB06
import Derived.Test.YtcgkgaibomcheaaGreatZB05
import Derived.Test.YtcgkgaibomcheaaGreatZB02
import Derived.Test.YtcgkgaibomcheaaGreatZB09
import Derived.Laws.CopyOwn
section
/- The program's Step, over the machine in plain numbers. Conditions: those of each theorem. -/
namespace Go.Proofs.YtcgkgaibomcheaaGreat.EStep
open Go.RowKit Go.Proofs.YtcgkgaibomcheaaGreat.Bits Go.Proofs.YtcgkgaibomcheaaGreat.Dec Go.Proofs.YtcgkgaibomcheaaGreat.Mac Go.Proofs.YtcgkgaibomcheaaGreat.Mb Go.Proofs.YtcgkgaibomcheaaGreat.Rd Go.Proofs.YtcgkgaibomcheaaGreat.RDec Go.Proofs.YtcgkgaibomcheaaGreat.EM Go.Proofs.YtcgkgaibomcheaaGreat.EDo Go.Proofs.YtcgkgaibomcheaaGreat.EDo2 Go.Proofs.YtcgkgaibomcheaaGreat.PRvemuRuns Go.Proofs.YtcgkgaibomcheaaGreatW.PrintWords Go.Proofs.YtcgkgaibomcheaaGreatW.PrintLast Go.Proofs.YtcgkgaibomcheaaGreatW.PrintMore
set_option linter.unusedVariables false
set_option linter.unusedSimpArgs false

section
variable {W W' : World} {g gm : Nat} {m : Mac} {c d f t : Value}
theorem vals_fin (m : Mac) (c d f t q : Value) (e : Int) : Ends.fin (vals m c d f t q) e = vals (fin m e) c d f t q := by
  funext i
  unfold Ends.fin vals fin
  by_cases h : i = 39
  · subst h; rfl
  · rw [if_neg h]
    by_cases h2 : i = 38
    · subst h2; rfl
    · rw [if_neg h2]
      simp only [if_neg h, if_neg h2]
theorem ends_left (h : ME W g m c d f t gm) (e : Int) : Calls Tryz.prog 39 #[.pointer (some ⟨g, 0, none⟩), .int .i64 e] W fun e' w' => e' = .returned (.bool true) ∧ Lft W g gm (fin m e) c d f t w' :=
  (Ends.ends g _ e W h.mb).mono fun e' w' ⟨he, hm, ho⟩ => ⟨he, left_only h ho _ (by rw [← vals_fin]; exact hm) rfl rfl rfl⟩
set_option maxRecDepth 20000 in
theorem step_done (h : ME W g m c d f t gm) (hd : m.done = true) : Calls Tryz.prog 25 #[.pointer (some ⟨g, 0, none⟩)] W fun e w' => e = .returned (.bool (stepM m).done) ∧ Lft W g gm (stepM m) c d f t w' := by
  have hs : stepM m = m := by unfold stepM; rw [if_pos hd]
  rw [hs, hd]
  have c38 := (h.mb.cell 38 (by omega)).trans (congrArg some (show vals m c d f t (.map (some gm)) 38 = .bool true from by show Value.bool m.done = _; rw [hd]))
  have HL := Aside0.mk (left_below h (Below.refl _ _))
  clear h hd hs
  go_enter Tryz.func25, Tryz.ntmps25
  go_wp2
  go_ret
  exact ⟨rfl, HL.out⟩
set_option maxRecDepth 20000 in
theorem step_back (h : ME W g m c d f t gm) (hd : m.done = false) (hb : m.pc = back) : Calls Tryz.prog 25 #[.pointer (some ⟨g, 0, none⟩)] W fun e w' => e = .returned (.bool (stepM m).done) ∧ Lft W g gm (stepM m) c d f t w' := by
  have hs : stepM m = fin m 0 := by unfold stepM; rw [if_neg (by rw [hd]; simp), if_pos hb]
  rw [hs, show (fin m 0).done = true from rfl]
  have c38 := (h.mb.cell 38 (by omega)).trans (congrArg some (show vals m c d f t (.map (some gm)) 38 = .bool false from by show Value.bool m.done = _; rw [hd]))
  have c35 := (h.mb.cell 35 (by omega)).trans (congrArg some (show vals m c d f t (.map (some gm)) 35 = .int .u64 412316860416 from by show Value.int .u64 (U m.pc) = _; rw [hb]; rfl))
  have HE := Aside0.mk (ends_left h 0)
  clear h hd hs hb
  go_enter Tryz.func25, Tryz.ntmps25
  go_wp2_with fail
  refine HE.out.mono ?_
  rintro e w1 ⟨rfl, hl⟩
  have HL := Aside0.mk hl
  clear hl
  go_wp2
  go_ret
  exact ⟨rfl, HL.out⟩
theorem lft_below {m2 : Mac} {W1 W2 : World} (hb : Below W.heap.size W W1) (h : Lft W1 g gm m2 c d f t W2) : Lft W g gm m2 c d f t W2 := by
  obtain ⟨t2, b1, b2, b3⟩ := h
  exact ⟨t2, b1, ((Wr.refl _ _).below hb).then_ b2 (fun k e => .inl e), fun k e => (b3 k e).imp_right (fun hle => Nat.le_trans hb.size hle)⟩
theorem ends_lft {m1 : Mac} (hw : Lft W g gm m1 c d f t W') (er : Int) : Calls Tryz.prog 39 #[.pointer (some ⟨g, 0, none⟩), .int .i64 er] W' fun e w' => e = .returned (.bool true) ∧ Lft W g gm (fin m1 er) c d f t w' := by
  obtain ⟨t1, a1, a2, a3⟩ := hw
  refine (ends_left a1 er).mono fun e w' hh => ⟨hh.1, ?_⟩
  obtain ⟨t2, b1, b2, b3⟩ := hh.2
  refine ⟨t2, b1, a2.then_ b2 (fun k hk => ?_), fun k hk => ?_⟩
  · rcases hk with e | e | e
    · exact .inl (.inl e)
    · exact .inl (.inr (.inl e))
    · rcases a3 k e with e | e
      · exact .inl (.inr (.inr e))
      · exact .inr e
  · rcases b3 k hk with e | e
    · exact a3 k e
    · exact .inr (Nat.le_trans a2.1.1 e)
theorem pc_ne {p : BitVec 64} (h : ¬ p = back) : (U p == (412316860416 : Int)) = false := by
  rw [beq_eq_false_iff_ne]
  intro e
  exact h (U_inj (e.trans rfl))
set_option maxRecDepth 20000 in
theorem step_fuel (h : ME W g m c d f t gm) (hd : m.done = false) (hb : ¬ m.pc = back) (hf : m.fuel ≤ m.steps) : Calls Tryz.prog 25 #[.pointer (some ⟨g, 0, none⟩)] W fun e w' => e = .returned (.bool (stepM m).done) ∧ Lft W g gm (stepM m) c d f t w' := by
  have hs : stepM m = fin m 3 := by unfold stepM; rw [if_neg (by rw [hd]; simp), if_neg hb, if_pos hf]
  rw [hs, show (fin m 3).done = true from rfl]
  have c38 := (h.mb.cell 38 (by omega)).trans (congrArg some (show vals m c d f t (.map (some gm)) 38 = .bool false from by show Value.bool m.done = _; rw [hd]))
  have c35 := (h.mb.cell 35 (by omega)).trans (congrArg some (show vals m c d f t (.map (some gm)) 35 = .int .u64 (U m.pc) from rfl))
  have c36 := (h.mb.cell 36 (by omega)).trans (congrArg some (show vals m c d f t (.map (some gm)) 36 = .int .i64 m.fuel from rfl))
  have c37 := (h.mb.cell 37 (by omega)).trans (congrArg some (show vals m c d f t (.map (some gm)) 37 = .int .i64 m.steps from rfl))
  have t1 := pc_ne hb
  have t2 : decide (m.steps ≥ m.fuel) = true := decide_eq_true hf
  have t3 : decide (m.fuel ≤ m.steps) = true := decide_eq_true hf
  have HE := Aside0.mk (fun (n : Nat) => ends_lft (left_below h (pw_below_drewN (Below.refl W.heap.size W) n)) 3)
  clear h hd hs hb
  generalize U m.pc = p at *
  generalize m.steps = s at *
  generalize m.fuel = u at *
  go_enter Tryz.func25, Tryz.ntmps25
  go_wp2_with fail
  go_quiet (fail)
  go_wp2_with fail
  refine (HE.out nq).mono ?_
  rintro e w1 ⟨rfl, hl⟩
  have HL := Aside0.mk hl
  clear hl
  go_wp2
  go_ret
  exact ⟨rfl, HL.out⟩
/-- The tests ahead of the fetch. -/
structure Tests (W : World) (g : Nat) (p s u : Int) : Prop where
  c38 : W.cell? ⟨g, 38, none⟩ = some (.bool false)
  c35 : W.cell? ⟨g, 35, none⟩ = some (.int .u64 p)
  c36 : W.cell? ⟨g, 36, none⟩ = some (.int .i64 u)
  c37 : W.cell? ⟨g, 37, none⟩ = some (.int .i64 s)
  t1 : (p == 412316860416) = false
  t2 : decide (s ≥ u) = false
  t3 : decide (u ≤ s) = false
theorem tests (h : ME W g m c d f t gm) (hd : m.done = false) (hb : ¬ m.pc = back) (hf : ¬ m.fuel ≤ m.steps) : Tests W g (U m.pc) m.steps m.fuel where
  c38 := (h.mb.cell 38 (by omega)).trans (congrArg some (show vals m c d f t (.map (some gm)) 38 = .bool false from by show Value.bool m.done = _; rw [hd]))
  c35 := (h.mb.cell 35 (by omega)).trans (congrArg some (show vals m c d f t (.map (some gm)) 35 = .int .u64 (U m.pc) from rfl))
  c36 := (h.mb.cell 36 (by omega)).trans (congrArg some (show vals m c d f t (.map (some gm)) 36 = .int .i64 m.fuel from rfl))
  c37 := (h.mb.cell 37 (by omega)).trans (congrArg some (show vals m c d f t (.map (some gm)) 37 = .int .i64 m.steps from rfl))
  t1 := pc_ne hb
  t2 := decide_eq_false (by omega)
  t3 := decide_eq_false hf
set_option maxRecDepth 20000 in
set_option maxHeartbeats 1000000 in
/-- No instruction is had: the machine ends. -/
theorem step_bad (h : ME W g m c d f t gm) (hd : m.done = false) (hb : ¬ m.pc = back) (hf : ¬ m.fuel ≤ m.steps) (er : Int) (her : er ≠ 0)
    (FC : ∀ W', Below W.heap.size W W' → Calls Tryz.prog 40 #[.pointer (some ⟨g, 0, none⟩)] W' fun e w' => e = .returned (.tuple #[ins0, .int .i64 er]) ∧ Below W'.heap.size W' w') :
    Calls Tryz.prog 25 #[.pointer (some ⟨g, 0, none⟩)] W fun e w' => e = .returned (.bool true) ∧ Lft W g gm (fin m er) c d f t w' := by
  obtain ⟨c38, c35, c36, c37, t1, t2, t3⟩ := tests h hd hb hf
  have q1 : (er == 0) = false := beq_eq_false_iff_ne.2 her
  have q2 : (er != 0) = true := bne_iff_ne.2 her
  have HE := Aside0.mk (fun (W' : World) (hw : Below W.heap.size W W') => ends_lft (left_below h hw) er)
  have HF := Aside0.mk FC
  unfold ins0 at HF
  clear h hd hb hf FC her
  generalize U m.pc = p at *
  generalize m.steps = s at *
  generalize m.fuel = u at *
  go_enter Tryz.func25, Tryz.ntmps25
  go_wp2_with fail
  go_quiet (fail)
  go_wp2_with fail
  refine (HF.out _ (pw_below_drewN (Below.refl _ _) nq)).mono ?_
  rintro e w1 ⟨rfl, hb1⟩
  have HB1 := Aside0.mk (below_step (pw_below_drewN (Below.refl W.heap.size W) nq) hb1)
  clear hb1 HF
  go_wp2_with fail
  refine (HE.out _ (below_alloc HB1.out _)).mono ?_
  rintro e w2 ⟨rfl, hl⟩
  have HL := Aside0.mk hl
  clear hl
  go_wp2
  go_ret
  exact ⟨rfl, HL.out⟩
set_option maxRecDepth 20000 in
set_option maxHeartbeats 1000000 in
/-- An instruction that fails. -/
theorem step_fails (h : ME W g m c d f t gm) (hd : m.done = false) (hb : ¬ m.pc = back) (hf : ¬ m.fuel ≤ m.steps) (n wd : Nat) (er : Int) (her : er ≠ 0)
    (FC : ∀ W', Below W.heap.size W W' → Calls Tryz.prog 40 #[.pointer (some ⟨g, 0, none⟩)] W' fun e w' => e = .returned (.tuple #[insOf n wd, .int .i64 0]) ∧ Below W'.heap.size W' w')
    (DC : ∀ W', Below W.heap.size W W' → Calls Tryz.prog 41 #[.pointer (some ⟨g, 0, none⟩), insOf n wd] W' fun e w' => e = .returned (.int .i64 er) ∧ Lft W' g gm m c d f t w') :
    Calls Tryz.prog 25 #[.pointer (some ⟨g, 0, none⟩)] W fun e w' => e = .returned (.bool true) ∧ Lft W g gm (fin m er) c d f t w' := by
  obtain ⟨c38, c35, c36, c37, t1, t2, t3⟩ := tests h hd hb hf
  have q1 : (er == 0) = false := beq_eq_false_iff_ne.2 her
  have q2 : (er != 0) = true := bne_iff_ne.2 her
  have HE := Aside0.mk (fun (W' : World) (hw : Lft W g gm m c d f t W') => ends_lft hw er)
  have HF := Aside0.mk FC
  have HDO := Aside0.mk DC
  have HI := Aside0.mk (show insOf n wd = .agg #[.int .i64 (n : Int), .int .i64 (fdOf n wd : Nat), .int .i64 (fs1Of n wd : Nat), .int .i64 (fs2Of n wd : Nat), .int .i64 (immOf (formOf n) wd)] from rfl)
  rw [HI.out] at HF HDO
  generalize ((fdOf n wd : Nat) : Int) = a1 at *
  generalize ((fs1Of n wd : Nat) : Int) = a2 at *
  generalize ((fs2Of n wd : Nat) : Int) = a3 at *
  generalize immOf (formOf n) wd = a4 at *
  clear h hd hb hf FC DC her HI
  generalize U m.pc = p at *
  generalize m.steps = s at *
  generalize m.fuel = u at *
  go_enter Tryz.func25, Tryz.ntmps25
  go_wp2_with fail
  go_quiet (fail)
  go_wp2_with fail
  refine (HF.out _ (pw_below_drewN (Below.refl _ _) nq)).mono ?_
  rintro e w1 ⟨rfl, hb1⟩
  have HB1 := Aside0.mk (below_step (pw_below_drewN (Below.refl W.heap.size W) nq) hb1)
  clear hb1 HF
  go_wp2_with fail
  refine (HDO.out _ (below_alloc HB1.out _)).mono ?_
  rintro e w2 ⟨rfl, hl2⟩
  have HL2 := Aside0.mk (lft_below (below_alloc HB1.out _) hl2)
  clear hl2
  go_wp2_with fail
  refine (HE.out _ HL2.out).mono ?_
  rintro e w3 ⟨rfl, hl⟩
  have HL := Aside0.mk hl
  clear hl HL2
  go_wp2
  go_ret
  exact ⟨rfl, HL.out⟩
theorem pc_eq (p : BitVec 64) : (U p == (412316860416 : Int)) = decide (p = back) := by
  rw [Bool.eq_iff_iff, beq_iff_eq, decide_eq_true_iff]
  exact ⟨fun e => U_inj (e.trans rfl), fun e => by rw [e]; rfl⟩
theorem ME.after (h : ME W g m c d f t gm) : ME ((W.setCell ⟨g, 37, none⟩ (.int .i64 (m.steps + 1))).setCell ⟨g, 38, none⟩ (.bool (decide (m.pc = back)))) g (after m) c d f t gm := by
  refine ME.put (m := { m with steps := m.steps + 1 }) (ME.put h 37 _ { m with steps := m.steps + 1 } rfl (fun i _ hi => ?_) rfl rfl rfl) 38 _ (Mac.after m) rfl (fun i _ hi => ?_) rfl rfl rfl
  · unfold vals
    simp only [if_neg hi]
  · unfold vals Mac.after
    simp only [if_neg hi]
theorem after_lft {m1 : Mac} (hw : Lft W g gm m1 c d f t W') : Lft W g gm (after m1) c d f t ((W'.setCell ⟨g, 37, none⟩ (.int .i64 (m1.steps + 1))).setCell ⟨g, 38, none⟩ (.bool (decide (m1.pc = back)))) := by
  obtain ⟨t1, a1, a2, a3⟩ := hw
  exact ⟨t1, ME.after a1, (a2.set (p := ⟨g, 37, none⟩) (.inl (.inl rfl)) _).set (p := ⟨g, 38, none⟩) (.inl (.inl rfl)) _, a3⟩
set_option maxRecDepth 20000 in
set_option maxHeartbeats 1000000 in
/-- An instruction that is done. -/
theorem step_runs (h : ME W g m c d f t gm) (hd : m.done = false) (hb : ¬ m.pc = back) (hf : ¬ m.fuel ≤ m.steps) (n wd : Nat) (m1 : Mac) (s0 : -9223372036854775808 ≤ m1.steps) (s1 : m1.steps < 9223372036854775807)
    (FC : ∀ W', Below W.heap.size W W' → Calls Tryz.prog 40 #[.pointer (some ⟨g, 0, none⟩)] W' fun e w' => e = .returned (.tuple #[insOf n wd, .int .i64 0]) ∧ Below W'.heap.size W' w')
    (DC : ∀ W', Below W.heap.size W W' → Calls Tryz.prog 41 #[.pointer (some ⟨g, 0, none⟩), insOf n wd] W' fun e w' => e = .returned (.int .i64 0) ∧ Lft W' g gm m1 c d f t w') :
    Calls Tryz.prog 25 #[.pointer (some ⟨g, 0, none⟩)] W fun e w' => e = .returned (.bool (after m1).done) ∧ Lft W g gm (after m1) c d f t w' := by
  obtain ⟨c38, c35, c36, c37, t1, t2, t3⟩ := tests h hd hb hf
  have HF := Aside0.mk FC
  have HDO := Aside0.mk DC
  have HI := Aside0.mk (show insOf n wd = .agg #[.int .i64 (n : Int), .int .i64 (fdOf n wd : Nat), .int .i64 (fs1Of n wd : Nat), .int .i64 (fs2Of n wd : Nat), .int .i64 (immOf (formOf n) wd)] from rfl)
  rw [HI.out] at HF HDO
  have HAD := Aside0.mk (show (after m1).done = decide (m1.pc = back) from rfl)
  have HCL := Aside0.mk (show ∀ W2, Lft W g gm m1 c d f t W2 → W2.cell? ⟨g, 37, none⟩ = some (.int .i64 m1.steps) ∧ W2.cell? ⟨g, 35, none⟩ = some (.int .u64 (U m1.pc)) ∧ (∃ u, W2.cell? ⟨g, 38, none⟩ = some u) ∧ W2.frozen? ⟨g, 37, none⟩ = false ∧ W2.frozen? ⟨g, 38, none⟩ = false from fun W2 hw => by
    obtain ⟨t1, a1, a2, a3⟩ := hw
    exact ⟨a1.mb.cell 37 (by omega), a1.mb.cell 35 (by omega), ⟨_, a1.mb.cell 38 (by omega)⟩, a1.mb.frozen 37, a1.mb.frozen 38⟩)
  have HAF := Aside0.mk (fun (W2 : World) (hw : Lft W g gm m1 c d f t W2) => after_lft hw)
  have hq := pc_eq m1.pc
  have hw1 : wrap64 (m1.steps + 1) = m1.steps + 1 := by unfold wrap64; omega
  generalize ((fdOf n wd : Nat) : Int) = a1 at *
  generalize ((fs1Of n wd : Nat) : Int) = a2 at *
  generalize ((fs2Of n wd : Nat) : Int) = a3 at *
  generalize immOf (formOf n) wd = a4 at *
  clear h hd hb hf FC DC HI
  generalize U m.pc = p at *
  generalize m.steps = s at *
  generalize m.fuel = u at *
  rw [HAD.out]
  obtain ⟨dn, hdn⟩ : ∃ dn, decide (m1.pc = back) = dn := ⟨_, rfl⟩
  rw [hdn] at HAF hq ⊢
  clear hdn HAD
  obtain ⟨p1, hp1⟩ : ∃ p1, U m1.pc = p1 := ⟨_, rfl⟩
  rw [hp1] at hq HCL
  clear hp1
  obtain ⟨s2, hs2⟩ : ∃ s2, m1.steps = s2 := ⟨_, rfl⟩
  rw [hs2] at hw1 HCL s0 s1 HAF
  clear hs2
  go_enter Tryz.func25, Tryz.ntmps25
  go_wp2_with fail
  go_quiet (fail)
  go_wp2_with fail
  refine (HF.out _ (pw_below_drewN (Below.refl _ _) nq)).mono ?_
  rintro e w1 ⟨rfl, hb1⟩
  have HB1 := Aside0.mk (below_step (pw_below_drewN (Below.refl W.heap.size W) nq) hb1)
  clear hb1 HF
  go_wp2_with fail
  refine (HDO.out _ (below_alloc HB1.out _)).mono ?_
  rintro e w2 ⟨rfl, hl2⟩
  have HL2 := Aside0.mk (lft_below (below_alloc HB1.out _) hl2)
  clear hl2
  obtain ⟨k37, k35, ⟨uu, k38⟩, f37, f38⟩ := HCL.out _ HL2.out
  clear HCL
  go_wp2
  go_ret
  exact ⟨rfl, HAF.out _ HL2.out⟩
theorem does_steps (m : Mac) (n wd : Nat) : (does m n wd).1.steps = m.steps := by
  have hx : ∀ (m : Mac) rd r, (setx m rd r).steps = m.steps := fun m rd r => by unfold setx; split <;> rfl
  unfold does
  repeat' split
  all_goals first | rfl | exact hx _ _ _
theorem does_err (m : Mac) (n wd : Nat) (h : (does m n wd).2 ≠ 0) : (does m n wd).1 = m := by
  revert h
  unfold does
  repeat' split
  all_goals first | (intro h; exact absurd rfl h) | (intro _; rfl)
/-- Step. -/
theorem step_eq (h : ME W g m c d f t gm) {S : Nat → Prop} (hc : CodeAt W S c m.code) (hbc : isBytes m.code) (hcl : m.code.length ≤ 1000000000000000) (hl : m.tr.length ≤ 1000000000) (s0 : -9223372036854775808 ≤ m.steps) (s1 : m.steps < 9223372036854775807) :
    Calls Tryz.prog 25 #[.pointer (some ⟨g, 0, none⟩)] W fun e w' => e = .returned (.bool (stepM m).done) ∧ Lft W g gm (stepM m) c d f t w' := by
  by_cases hd : m.done = true
  · exact step_done h hd
  have hd : m.done = false := Bool.eq_false_iff.2 hd
  by_cases hb : m.pc = back
  · exact step_back h hd hb
  by_cases hf : m.fuel ≤ m.steps
  · exact step_fuel h hd hb hf
  obtain ⟨A, cc, hc1, hc2, hc3, _⟩ := hc
  have hU : U m.pc = ((m.pc.toNat : Nat) : Int) := rfl
  have hn : (U m.pc - 4194304).toNat = m.pc.toNat - 4194304 := by rw [hU]; omega
  by_cases hft : fetches m = true
  · unfold fetches at hft
    obtain ⟨k1, k2, k3⟩ := of_decide_eq_true hft
    have hft : fetches m = true := decide_eq_true ⟨k1, k2, k3⟩
    have FC := fun W' (hw : Below W.heap.size W W') => EFetch.fetch_ok g _ A m.code cc (U m.pc) W' (h.below hw).mb hc1 rfl (U_nonneg _) (U_lt _) hcl hc2 (Kd.C_below hc3 hw) hbc (by rw [hU]; omega) (by rw [hU]; omega) (by rw [hU]; omega)
    rw [hn] at FC
    have hw : (ld m.code (m.pc.toNat - 4194304) 4).toNat = word m := rfl
    rw [hw] at FC
    cases hdc : dec (word m) with
    | none =>
      have hs : stepM m = fin m 5 := by
        unfold stepM
        rw [if_neg (by rw [hd]; simp), if_neg hb, if_neg hf, if_neg (by rw [hft]; simp), hdc]
      rw [hs, show (fin m 5).done = true from rfl]
      have hv : decV (word m) = .tuple #[ins0, .int .i64 5] := by unfold decV; rw [hdc]
      rw [hv] at FC
      exact step_bad h hd hb hf 5 (by decide) FC
    | some n =>
      obtain ⟨n0, n1, _⟩ := dec_some hdc
      have hv : decV (word m) = .tuple #[insOf n (word m), .int .i64 0] := by unfold decV; rw [hdc]
      rw [hv] at FC
      have DC := fun W' (hw : Below W.heap.size W W') => do_eq (h.below hw) hl n (word m) n0 n1
      by_cases he : (does m n (word m)).2 = 0
      · have hs : stepM m = after (does m n (word m)).1 := by
          unfold stepM
          rw [if_neg (by rw [hd]; simp), if_neg hb, if_neg hf, if_neg (by rw [hft]; simp), hdc]
          simp only [he, if_true]
        rw [hs]
        rw [he] at DC
        have hst := does_steps m n (word m)
        exact step_runs h hd hb hf n (word m) _ (by rw [hst]; exact s0) (by rw [hst]; exact s1) FC DC
      · have hs : stepM m = fin m (does m n (word m)).2 := by
          unfold stepM
          rw [if_neg (by rw [hd]; simp), if_neg hb, if_neg hf, if_neg (by rw [hft]; simp), hdc]
          simp only [he, if_false]
        have hm := does_err m n (word m) he
        rw [hs, show (fin m (does m n (word m)).2).done = true from rfl]
        rw [hm] at DC
        exact step_fails h hd hb hf n (word m) _ he FC DC
  · have hft : fetches m = false := Bool.eq_false_iff.2 hft
    have hs : stepM m = fin m 4 := by
      unfold stepM
      rw [if_neg (by rw [hd]; simp), if_neg hb, if_neg hf, if_pos hft]
    rw [hs, show (fin m 4).done = true from rfl]
    unfold fetches at hft
    have hft := of_decide_eq_false hft
    exact step_bad h hd hb hf 4 (by decide) (fun W' hw => EFetch.fetch_bad g _ A m.code.length cc (U m.pc) W' (h.below hw).mb hc1 rfl (U_nonneg _) (U_lt _) hcl (fun hh => hft (by rw [hU] at hh; omega)))
end
end Go.Proofs.YtcgkgaibomcheaaGreat.EStep
end

section
/- The document's machine: its load. Conditions: the machine's block and slices are there. -/
namespace Go.Proofs.YtcgkgaibomcheaaGreat.RLoad
open Go.RowKit Go.Proofs.YtcgkgaibomcheaaGreat.Bits Go.Proofs.YtcgkgaibomcheaaGreat.Mb Go.Proofs.YtcgkgaibomcheaaGreat.Reg Go.Proofs.YtcgkgaibomcheaaGreat.Rd Go.Proofs.YtcgkgaibomcheaaGreat.PRvemuRuns Go.Proofs.YtcgkgaibomcheaaGreatW.PrintWords Go.Proofs.YtcgkgaibomcheaaGreatW.PrintLast Go.Proofs.YtcgkgaibomcheaaGreatW.PrintMore
set_option linter.unusedVariables false
set_option linter.unusedSimpArgs false

theorem wrapU' (z : Int) : IntKind.u64.wrap z = z % 18446744073709551616 := by
  simp only [IntKind.wrap, IntKind.bits, IntKind.signed, Bool.false_and, Bool.false_eq_true, if_false]
  omega
theorem within_eq (a n fr size : Int) (h0 : 0 ≤ a) (ha : a < 18446744073709551616) (hn1 : 1 ≤ n) (hn8 : n ≤ 8) (hf : 0 ≤ fr) (hs : 0 ≤ size) (hfs : fr + size ≤ 4294967296) : ravelinref16_within.f a n fr size = some (decide (fr ≤ a ∧ a + n ≤ fr + size)) := by
  unfold ravelinref16_within.f
  simp only [wrapU']
  by_cases h1 : a ≥ fr
  · rw [if_pos h1, show (a - fr) % 18446744073709551616 = a - fr by omega, show size % 18446744073709551616 = size by omega, show n % 18446744073709551616 = n by omega]
    by_cases h2 : a - fr ≤ size
    · rw [if_pos h2, show (size - (a - fr)) % 18446744073709551616 = size - (a - fr) by omega]
      congr 1
      rw [decide_eq_decide]
      omega
    · rw [if_neg h2, decide_eq_false (by omega)]
  · rw [if_neg h1, decide_eq_false (by omega)]
end Go.Proofs.YtcgkgaibomcheaaGreat.RLoad
end

section
/- The document's machine: its store. Conditions: the machine's block and slices are there. -/
namespace Go.Proofs.YtcgkgaibomcheaaGreat.RStore
open Go.RowKit Go.Proofs.YtcgkgaibomcheaaGreat.Bits Go.Proofs.YtcgkgaibomcheaaGreat.Mb Go.Proofs.YtcgkgaibomcheaaGreat.Reg Go.Proofs.YtcgkgaibomcheaaGreat.Rd Go.Proofs.YtcgkgaibomcheaaGreat.RLoad Go.Proofs.YtcgkgaibomcheaaGreat.PRvemuRuns Go.Proofs.YtcgkgaibomcheaaGreatW.PrintWords Go.Proofs.YtcgkgaibomcheaaGreatW.PrintLast Go.Proofs.YtcgkgaibomcheaaGreatW.PrintMore
set_option linter.unusedVariables false
set_option linter.unusedSimpArgs false

/-- The values with another stack. -/
def atSt (v : Nat → Value) (s : Value) : Nat → Value := fun i => if i = 2 then s else v i
end Go.Proofs.YtcgkgaibomcheaaGreat.RStore
end

section
/- The document's machine in memory, and what keeps it. Conditions: those of each theorem. -/
namespace Go.Proofs.YtcgkgaibomcheaaGreat.RM
open Go.RowKit Go.Proofs.YtcgkgaibomcheaaGreat.Bits Go.Proofs.YtcgkgaibomcheaaGreat.Dec Go.Proofs.YtcgkgaibomcheaaGreat.Mac Go.Proofs.YtcgkgaibomcheaaGreat.Mb Go.Proofs.YtcgkgaibomcheaaGreat.Rd Go.Proofs.YtcgkgaibomcheaaGreat.RDec Go.Proofs.YtcgkgaibomcheaaGreat.EM Go.Proofs.YtcgkgaibomcheaaGreat.PRvemuRuns Go.Proofs.YtcgkgaibomcheaaGreatW.PrintWords Go.Proofs.YtcgkgaibomcheaaGreatW.PrintLast Go.Proofs.YtcgkgaibomcheaaGreatW.PrintMore
set_option linter.unusedVariables false
set_option linter.unusedSimpArgs false

/-- What a step of the document's machine may write. -/
def ownR (g : Nat) (t : Value) (k : Nat) : Prop := k = g ∨ some k = t.ownBlock
/-- The document's machine, but for its code. -/
structure MR (W : World) (g : Nat) (m : Mac) (c d f t : Value) : Prop where
  mb : MB 76 41 W g (vals m c d f t undef)
  tr : TrAt W t m.tr
  data : ∃ gd cd, d = .slice (some ⟨gd, 0, none⟩) 64 cd ∧ 64 ≤ cd ∧ Row gd m.data W
  frame : SlAt W f m.frame
  fty : ∀ k, some k = f.ownBlock → ∃ cs, W.heap[k]? = some (.cells cs 5 (0, 0))
  d64 : m.data.length = 64
  fl : m.frame.length ≤ 1048576
  bd : isBytes m.data
  bf : isBytes m.frame
section
variable {W W' : World} {g : Nat} {m : Mac} {c d f t : Value}
theorem MR.kept {T : Nat → Prop} (h : MR W g m c d f t) (hk : Kept W W' T) (hT : ∀ k, k < W.heap.size → T k → ¬ ownR g t k ∧ some k ≠ d.ownBlock ∧ some k ≠ f.ownBlock) : MR W' g m c d f t where
  mb := h.mb.of (hk.2 g h.mb.lt (fun e => (hT g h.mb.lt e).1 (.inl rfl)))
  tr := h.tr.kept hk (fun k e hh => (hT k (h.tr.lt k e) hh).1 (.inr e))
  data := by
    obtain ⟨gd, cd, h1, h2, h3⟩ := h.data
    exact ⟨gd, cd, h1, h2, h3.of (hk.2 gd h3.lt (fun e => (hT gd h3.lt e).2.1 (by rw [h1]; simp [Value.ownBlock])))⟩
  frame := h.frame.of fun k e hl => hk.2 k hl (fun hh => (hT k hl hh).2.2 e)
  fty := fun k e => by
    obtain ⟨cs, h1⟩ := h.fty k e
    exact ⟨cs, (hk.2 k (blk_lt h1) (fun hh => (hT k (blk_lt h1) hh).2.2 e)).trans h1⟩
  d64 := h.d64
  fl := h.fl
  bd := h.bd
  bf := h.bf
theorem MR.below (h : MR W g m c d f t) (hb : Below W.heap.size W W') : MR W' g m c d f t := h.kept (Kept.of_below hb (fun _ => False)) (fun _ _ e => e.elim)
/-- What a step leaves. -/
def LftR (W : World) (g : Nat) (m1 : Mac) (c d f t : Value) (w' : World) : Prop := ∃ f1 t1, MR w' g m1 c d f1 t1 ∧ Wr (ownR g t) W w' ∧ (∀ k, some k = t1.ownBlock → some k = t.ownBlock ∨ W.heap.size ≤ k) ∧ (∀ k, some k = f1.ownBlock → some k = f.ownBlock ∨ W.heap.size ≤ k)
theorem left_below (h : MR W g m c d f t) (hb : Below W.heap.size W W') : LftR W g m c d f t W' := ⟨f, t, h.below hb, (Wr.refl _ _).below hb, fun k e => .inl e, fun k e => .inl e⟩
end
end Go.Proofs.YtcgkgaibomcheaaGreat.RM
end

section
/- The document's 'does' over the machine in plain numbers. Conditions: those of each theorem. -/
namespace Go.Proofs.YtcgkgaibomcheaaGreat.RM2
open Go.RowKit Go.Proofs.YtcgkgaibomcheaaGreat.Bits Go.Proofs.YtcgkgaibomcheaaGreat.Dec Go.Proofs.YtcgkgaibomcheaaGreat.Mac Go.Proofs.YtcgkgaibomcheaaGreat.Mb Go.Proofs.YtcgkgaibomcheaaGreat.Rd Go.Proofs.YtcgkgaibomcheaaGreat.RDec Go.Proofs.YtcgkgaibomcheaaGreat.EM Go.Proofs.YtcgkgaibomcheaaGreat.RM Go.Proofs.YtcgkgaibomcheaaGreat.PRvemuRuns Go.Proofs.YtcgkgaibomcheaaGreatW.PrintWords Go.Proofs.YtcgkgaibomcheaaGreatW.PrintLast Go.Proofs.YtcgkgaibomcheaaGreatW.PrintMore
set_option linter.unusedVariables false
set_option linter.unusedSimpArgs false

section
variable {W W' : World} {g : Nat} {m : Mac} {c d f t : Value}
/-- What 'does' hands back. -/
def RP (m : Mac) (n wd : Nat) (W : World) (g : Nat) (c d f t : Value) (e : Ending) (w' : World) : Prop := ∃ q0 : Int, e = .returned (.tuple #[.int .u64 q0, .int .i64 (does m n wd).2]) ∧ ((does m n wd).2 = 0 → q0 = U (does m n wd).1.pc) ∧ LftR W g (setpc (does m n wd).1 m.pc) c d f t w'
end
end Go.Proofs.YtcgkgaibomcheaaGreat.RM2
end

section
/- The document's Step, over the machine in plain numbers. Conditions: those of each theorem. -/
namespace Go.Proofs.YtcgkgaibomcheaaGreat.RStep
open Go.RowKit Go.Proofs.YtcgkgaibomcheaaGreat.Bits Go.Proofs.YtcgkgaibomcheaaGreat.Dec Go.Proofs.YtcgkgaibomcheaaGreat.Mac Go.Proofs.YtcgkgaibomcheaaGreat.Mb Go.Proofs.YtcgkgaibomcheaaGreat.Rd Go.Proofs.YtcgkgaibomcheaaGreat.RDec Go.Proofs.YtcgkgaibomcheaaGreat.EM Go.Proofs.YtcgkgaibomcheaaGreat.RM Go.Proofs.YtcgkgaibomcheaaGreat.RM2 Go.Proofs.YtcgkgaibomcheaaGreat.PRvemuRuns Go.Proofs.YtcgkgaibomcheaaGreatW.PrintWords Go.Proofs.YtcgkgaibomcheaaGreatW.PrintLast Go.Proofs.YtcgkgaibomcheaaGreatW.PrintMore
set_option linter.unusedVariables false
set_option linter.unusedSimpArgs false

section
variable {W W' : World} {g : Nat} {m : Mac} {c d f t : Value}
/-- What the tests look at. -/
structure Tests (W : World) (g : Nat) (A : Option Addr) (L cc : Nat) (dn : Bool) (p s u : Int) : Prop where
  c0 : W.cell? ⟨g, 0, none⟩ = some (.slice A L cc)
  c38 : W.cell? ⟨g, 38, none⟩ = some (.bool dn)
  c35 : W.cell? ⟨g, 35, none⟩ = some (.int .u64 p)
  c36 : W.cell? ⟨g, 36, none⟩ = some (.int .i64 u)
  c37 : W.cell? ⟨g, 37, none⟩ = some (.int .i64 s)
  p0 : 0 ≤ p
  p1 : p < 18446744073709551616
theorem tests (h : MR W g m c d f t) {A : Option Addr} {cc : Nat} (hc : c = .slice A m.code.length cc) : Tests W g A m.code.length cc m.done (U m.pc) m.steps m.fuel where
  c0 := (h.mb.cell 0 (by omega)).trans (congrArg some hc)
  c38 := h.mb.cell 38 (by omega)
  c35 := h.mb.cell 35 (by omega)
  c36 := h.mb.cell 36 (by omega)
  c37 := h.mb.cell 37 (by omega)
  p0 := U_nonneg _
  p1 := U_lt _
theorem wrapL (L : Nat) (hL : L ≤ 1000000000000000) : IntKind.u64.wrap (L : Int) = (L : Int) := by simp only [IntKind.wrap, IntKind.bits, IntKind.signed, Bool.false_and, Bool.false_eq_true, if_false]; omega
set_option maxRecDepth 20000 in
theorem step_done (h : MR W g m c d f t) {A : Option Addr} {cc : Nat} (hc : c = .slice A m.code.length cc) (hcl : m.code.length ≤ 1000000000000000) (hd : m.done = true) : Calls Tryz.prog 26 #[.pointer (some ⟨g, 0, none⟩)] W fun e w' => e = .returned (.bool (stepM m).done) ∧ LftR W g (stepM m) c d f t w' := by
  have hs : stepM m = m := by unfold stepM; rw [if_pos hd]
  rw [hs, hd]
  obtain ⟨c0, c38, c35, c36, c37, p0, p1⟩ := tests h hc
  have wL := wrapL _ hcl
  rw [hd] at c38
  have HL := Aside0.mk (left_below h (Below.refl _ _))
  generalize m.code.length = L at *
  clear h hd hs hc
  generalize U m.pc = p at *
  generalize m.steps = s at *
  generalize m.fuel = u at *
  go_enter Tryz.func26, Tryz.ntmps26
  go_wp2
  go_ret
  exact ⟨rfl, HL.out⟩
/-- The word at the place. -/
theorem word_at {A : Option Addr} {cc : Nat} (hcc : m.code.length ≤ cc) (hC : Kd.C (Kd.int .u8) W A m.code.length m.code) (hbc : isBytes m.code) (hcl : m.code.length ≤ 1000000000000000) (hk : 4194304 ≤ m.pc.toNat ∧ m.pc.toNat - 4194304 + 4 ≤ m.code.length) (W' : World) (hw : Below W.heap.size W W') :
    Calls Tryz.prog 44 #[.slice A m.code.length cc, .int .i64 (U m.pc - 4194304)] W' fun e w' => e = .returned (.int .u32 ((word m : Nat) : Int)) ∧ Drawn0 W' w' := by
  have hU : U m.pc = ((m.pc.toNat : Nat) : Int) := rfl
  have hn : (U m.pc - 4194304).toNat = m.pc.toNat - 4194304 := by rw [hU]; omega
  have hl := F1.ref_Load_yes 100 (by omega) m.code hcl hbc (U m.pc - 4194304) 4 ⟨by omega, by omega, by rw [hU]; omega, by rw [hU]; omega⟩
  rw [hn] at hl
  refine ravelinref15_Word.calls 100 A cc m.code (U m.pc - 4194304) _ W' (Kd.C_below hC hw) hcc ?_
  unfold ravelinref15_Word.f
  rw [hl]
  have hlt : word m < 4294967296 := EFetch.ld_lt hbc _
  show some (((word m : Nat) : Int) % 4294967296) = some ((word m : Nat) : Int)
  congr 1
  omega
end
end Go.Proofs.YtcgkgaibomcheaaGreat.RStep
end

section
/- The bytes that a machine is filled with: filled, of the program and of the document. Conditions: the bytes can be read. -/
namespace Go.Proofs.YtcgkgaibomcheaaGreat.Fill
open Go.RowKit Go.Proofs.YtcgkgaibomcheaaGreat.Bits Go.Proofs.YtcgkgaibomcheaaGreat.Mb Go.Proofs.YtcgkgaibomcheaaGreat.Rd Go.Proofs.YtcgkgaibomcheaaGreat.EM Go.Proofs.YtcgkgaibomcheaaGreat.PRvemuRuns Go.Proofs.YtcgkgaibomcheaaGreatW.PrintWords Go.Proofs.YtcgkgaibomcheaaGreatW.PrintLast Go.Proofs.YtcgkgaibomcheaaGreatW.PrintMore
set_option linter.unusedVariables false
set_option linter.unusedSimpArgs false

/-- The first n bytes of l and of the noughts behind it. -/
def pad (l : List Int) (n : Nat) : List Int := (List.range n).map fun j => l.getD j 0
theorem pad_len (l : List Int) (n : Nat) : (pad l n).length = n := by unfold pad; rw [List.length_map, List.length_range]
theorem pad_get (l : List Int) (n j : Nat) (h : j < n) : (pad l n).getD j 0 = l.getD j 0 := by
  unfold pad
  rw [List.getD_eq_getElem?_getD, List.getElem?_map, List.getElem?_range h]
  rfl
theorem pad_bytes (l : List Int) (n : Nat) (h : isBytes l) : isBytes (pad l n) := by
  intro x hx
  unfold pad at hx
  obtain ⟨j, hj, rfl⟩ := List.mem_map.1 hx
  rw [List.getD_eq_getElem?_getD]
  cases he : l[j]? with
  | none => exact ⟨by decide, by decide⟩
  | some y =>
    obtain ⟨hl, hy⟩ := List.getElem?_eq_some_iff.1 he
    exact h y (hy ▸ List.getElem_mem hl)
theorem add0 (b j : Nat) : (⟨b, 0, none⟩ : Addr).add j = ⟨b, j, none⟩ := by
  cases j <;> simp [Addr.add]
/-- A row of bytes of one's own is a row of the machine's own. -/
theorem row_of_R {base : Nat} {ok : Nat → Prop} {w : World} {b c : Nat} {l : List Int} (h : Kd.R (Kd.int .u8) 5 w base ok (.slice (some ⟨b, 0, none⟩) l.length c) l) (hl : 0 < l.length) : Row b l w := by
  obtain ⟨go, co, e, gb, gl, cells, hc⟩ := Kd.R_form h hl
  injection e with e1 e2 e3
  injection e1 with e1
  injection e1 with e1
  subst e1
  have hx := (Kd.R_reads' h).2.2
  have hat : ∀ j, j < l.length → cells[j]? = some (.int .u8 (l.getD j 0)) := fun j hj => by
    obtain ⟨ad, e4, h4⟩ := Kd.at_int hx (j : Int) (by omega) (by omega)
    injection e4 with e4
    subst e4
    rw [Int.toNat_natCast, add0, blk_cell hc] at h4
    exact h4
  refine ⟨cells, hc, ?_, hat⟩
  have := (Array.getElem?_eq_some_iff.1 (hat (l.length - 1) (by omega))).1
  omega
theorem slat_of_R {base : Nat} {ok : Nat → Prop} {w : World} {v : Value} {l : List Int} (h : Kd.R (Kd.int .u8) 5 w base ok v l) : SlAt w v l := by
  by_cases hl : 0 < l.length
  · obtain ⟨go, co, e, gb, gl, cells, hc⟩ := Kd.R_form h hl
    subst e
    exact ⟨_, _, rfl, (Kd.R_reads' h).2.1, .inr ⟨go, rfl, row_of_R h hl⟩⟩
  · obtain ⟨A, c, e, h2, h3⟩ := Kd.R_reads h
    exact ⟨A, c, e, h2, .inl (List.eq_nil_of_length_eq_zero (by omega))⟩
/-- What a filling leaves. -/
def Filled (w : World) (f : Value) (l : List Int) (n : Nat) (w' : World) : Prop := SlAt w' f (pad l n) ∧ (∀ k, some k = f.ownBlock → w.heap.size ≤ k ∧ ∃ cs, w'.heap[k]? = some (.cells cs 5 (0, 0))) ∧ Below w.heap.size w w'
theorem splice_row {w' : World} {g n : Nat} {cells : Array Value} {l : List Int} (h : w'.heap[g]? = some (.cells (splice cells.toList 0 ((l.take n).map (Value.int .u8))).toArray 5 (0, 0))) (hz : ∀ j, j < n → cells[j]? = some (.int .u8 0)) (hc : n ≤ cells.size) : Row g (pad l n) w' := by
  have hm : ((l.take n).map (Value.int .u8)).length = Nat.min n l.length := by rw [List.length_map, List.length_take]
  have hm2 : Nat.min n l.length ≤ n := Nat.min_le_left _ _
  have hct : cells.toList.length = cells.size := Array.length_toList
  refine ⟨_, h, ?_, fun j hj => ?_⟩
  · rw [pad_len]
    rw [List.size_toArray]
    rw [length_splice _ _ _ (by rw [hm, hct]; omega), hct]
    exact hc
  · rw [pad_len] at hj
    rw [pad_get l n j hj, List.getElem?_toArray]
    unfold splice
    rw [List.take_zero, List.nil_append, Nat.zero_add, List.getElem?_append]
    by_cases hl : j < l.length
    · rw [if_pos (by rw [List.length_map, List.length_take]; omega), List.getElem?_map, List.getElem?_take, if_pos hj, List.getD_eq_getElem?_getD, List.getElem?_eq_getElem hl]
      rfl
    · have hlt : Nat.min n l.length = l.length := Nat.min_eq_right (by omega)
      rw [if_neg (by rw [hm, hlt]; omega), List.getElem?_drop, hm, hlt, show l.length + (j - l.length) = j by omega, Array.getElem?_toList, hz j hj, List.getD_eq_getElem?_getD, List.getElem?_eq_none (by omega)]
      rfl
theorem made {base n : Nat} {ok : Nat → Prop} {w : World} {v : Value} (h : Kd.R (Kd.int .u8) 5 w base ok v (List.replicate n 0)) (hn : n ≠ 0) : ∃ gv cv cells, v = .slice (some ⟨gv, 0, none⟩) n cv ∧ n ≤ cv ∧ w.heap[gv]? = some (.cells (cells : Array Value) 5 (0, 0)) ∧ (∀ j, j < n → cells[j]? = some (.int .u8 0)) ∧ n ≤ cells.size ∧ base ≤ gv := by
  obtain ⟨gv, co, e, gb, gl, cells, hc⟩ := Kd.R_form h (by rw [List.length_replicate]; omega)
  rw [List.length_replicate] at e
  subst e
  have hat : ∀ j, j < n → cells[j]? = some (.int .u8 0) := fun j hj => by
    obtain ⟨ad, e4, h4⟩ := Kd.at_int (Kd.R_reads' h).2.2 (j : Int) (by omega) (by rw [List.length_replicate]; omega)
    injection e4 with e4
    subst e4
    rw [Int.toNat_natCast, add0, blk_cell hc] at h4
    rw [h4]
    unfold rd
    simp [List.getD_eq_getElem?_getD, List.getElem?_replicate, hj]
  refine ⟨gv, co, cells, rfl, (Kd.R_reads' h).2.1, hc, hat, ?_, gb⟩
  have := (Array.getElem?_eq_some_iff.1 (hat (n - 1) (by omega))).1
  omega
theorem src34 {k : IntKind} {w w5 : World} {A : Option Addr} {l : List Int} {n : Nat} {X : Prop} (hx : X) (HR : (Kd.int k).C w A l.length l) (HB : Below w.heap.size w w5) : 0 < ((l.take n).map (Value.int k)).length → X ∧ ∃ ad, A = some ad ∧ ∀ j v, ((l.take n).map (Value.int k))[j]? = some v → w5.cell? (ad.add j) = some v := by
  intro hp
  rw [List.length_map, List.length_take] at hp
  refine ⟨hx, ?_⟩
  obtain ⟨ad, ea, _⟩ := HR.2.2 (by omega)
  refine ⟨ad, ea, fun j v hj => ?_⟩
  obtain ⟨hjl, hjv⟩ := List.getElem?_eq_some_iff.1 hj
  rw [List.length_map, List.length_take] at hjl
  obtain ⟨ad2, e4, h4⟩ := Kd.at_int HR (j : Int) (by omega) (by omega)
  rw [ea] at e4
  injection e4 with e4
  subst e4
  rw [Int.toNat_natCast] at h4
  rw [(HB.cell (World.block_lt_of_cell? w _ h4)).trans h4, ← hjv]
  rw [List.getElem_map, List.getElem_take]
  unfold rd
  simp [List.getD_eq_getElem?_getD, List.getElem?_eq_getElem (show j < l.length by omega)]
theorem src_len {k : IntKind} (l : List Int) (n : Nat) : ((l.take n).map (Value.int k)).length = Nat.min l.length n := by
  rw [List.length_map, List.length_take]
  exact Nat.min_comm _ _
theorem src_fit (l : List Int) {n : Nat} {cells : Array Value} (h : n ≤ cells.size) : 0 + ((l.take n).map (Value.int .u8)).length ≤ cells.toList.length := by
  have h2 : Nat.min l.length n ≤ n := Nat.min_le_right _ _
  rw [src_len, Array.length_toList (xs := cells)]
  omega
theorem src_one {k : IntKind} (l : List Int) (n : Nat) : ∀ v ∈ (l.take n).map (Value.int k), v.oneCell' = true := by
  intro v hv
  obtain ⟨x, _, rfl⟩ := List.mem_map.1 hv
  rfl
set_option maxRecDepth 20000 in
theorem filled34 (A : Option Addr) (c : Nat) (l : List Int) (n : Nat) (w : World) (hr : (Kd.int .u8).C w A l.length l) (hn : n ≤ 1048576) :
    Calls Tryz.prog 34 #[.slice A l.length c, .int .i64 (n : Int)] w fun e w' => ∃ f : Value, e = .returned f ∧ Filled w f l n w' := by
  have HR := Aside0.mk hr
  clear hr
  have HN := Aside0.mk hn
  clear hn
  by_cases h0 : n = 0
  · have HN0 := Aside0.mk h0
    clear h0
    go_enter Tryz.func34, Tryz.ntmps34
    go_wp2_with (first | ((with_reducible refine gate_dst (N := 7) rfl ?_); refine Kd.R_make (Kd.int .u8) (w0 := w) w.heap.size 5 rfl (N := 7) rfl 22 _ _ rfl (n : Int) rfl rfl Tryz.underlying22 (.int .u8 0) 1 info5 rfl (by decide) (by omega) 0 (ok := fun _ => True) (okp := fun _ => True) rfl (fun _ hk => hk) trivial (by omega) (by have := HN.out; omega) (Below.refl _ _) (Nat.le_refl _) ?_; intro v243 w5 ho6 hb hg_ hnew_; clear hg_ hnew_; rw [Int.toNat_natCast] at ho6; obtain ⟨Av, cv, ev⟩ := Kd.R_slice ho6; rw [List.length_replicate] at ev; subst ev; have HO := Aside0.mk ho6; have HB2 := Aside0.mk hb; clear ho6 hb) | ((with_reducible refine gate_dst (N := 10) rfl ?_); (refine wpList_copy_nothing rfl (.tmp 8) (.tmp 9) 22 22 rfl 5 Tryz.underlying22 (by kernel_rfl) _ _ _ _ _ _ rfl rfl (by rw [HN0.out]; exact Nat.min_zero _) ?_)))
    go_ret
    exact ⟨_, rfl, slat_of_R (by rw [HN0.out] at *; exact HO.out), fun k hk => ⟨Kd.R_base HO.out k hk.symm, Kd.R_typed HO.out k hk.symm⟩, HB2.out⟩
  · have HN0 := Aside0.mk h0
    clear h0
    go_enter Tryz.func34, Tryz.ntmps34
    go_wp2_with (first | ((with_reducible refine gate_dst (N := 7) rfl ?_); refine Kd.R_make (Kd.int .u8) (w0 := w) w.heap.size 5 rfl (N := 7) rfl 22 _ _ rfl (n : Int) rfl rfl Tryz.underlying22 (.int .u8 0) 1 info5 rfl (by decide) (by omega) 0 (ok := fun _ => True) (okp := fun _ => True) rfl (fun _ hk => hk) trivial (by omega) (by have := HN.out; omega) (Below.refl _ _) (Nat.le_refl _) ?_; intro v243 w5 ho6 hb hg_ hnew_; clear hg_ hnew_; rw [Int.toNat_natCast] at ho6; obtain ⟨gv, cv, cells, ev, hv1, hv2, hv3, hv4, hv5⟩ := made ho6 HN0.out; subst ev; have HTL := Aside0.mk (Array.toArray_toList (xs := cells)); have HO := Aside0.mk hv1; have HC := Aside0.mk hv2; have HAT := Aside0.mk hv3; have HSZ := Aside0.mk hv4; have HGB := Aside0.mk hv5; have HB2 := Aside0.mk hb; clear ho6 hb hv1 hv2 hv3 hv4 hv5) | ((with_reducible refine gate_dst (N := 10) rfl ?_); (refine wpList_copy_splice rfl (.tmp 8) (.tmp 9) 22 22 rfl 5 Tryz.underlying22 (by kernel_rfl) _ _ _ _ _ _ rfl rfl gv 0 cells.toList 5 HC.out ((l.take n).map (Value.int .u8)) (src_len l n) (src34 rfl HR.out HB2.out) (src_fit l HSZ.out) (src_one l n) w.heap.size w HB2.out HGB.out ?_); intro w6 HG6 HB6))
    have h6 := HG6.out
    go_ret
    refine ⟨.slice (some ⟨gv, 0, none⟩) n cv, rfl, ⟨_, cv, by rw [pad_len], by rw [pad_len]; exact HO.out, .inr ⟨gv, rfl, splice_row h6 HAT.out HSZ.out⟩⟩, fun k hk => ?_, HB6⟩
    have hk' : k = gv := by simpa [Value.ownBlock] using hk
    subst hk'
    exact ⟨HGB.out, _, h6⟩
end Go.Proofs.YtcgkgaibomcheaaGreat.Fill
end

section
/- A machine ahead of its first step, in plain numbers. -/
namespace Go.Proofs.YtcgkgaibomcheaaGreat.NewM
open Go.RowKit Go.Proofs.YtcgkgaibomcheaaGreat.Bits Go.Proofs.YtcgkgaibomcheaaGreat.Mac Go.Proofs.YtcgkgaibomcheaaGreat.Mb Go.Proofs.YtcgkgaibomcheaaGreat.Rd Go.Proofs.YtcgkgaibomcheaaGreat.EM Go.Proofs.YtcgkgaibomcheaaGreat.Fill Go.Proofs.YtcgkgaibomcheaaGreatW.PrintWords Go.Proofs.YtcgkgaibomcheaaGreatW.PrintLast
set_option linter.unusedVariables false
set_option linter.unusedSimpArgs false

/-- Is the frame refused? -/
def bad (fr : Int) : Prop := fr < 0 ∨ 1048576 < fr
instance (fr : Int) : Decidable (bad fr) := inferInstanceAs (Decidable (_ ∨ _))
/-- The registers as they are given. -/
def given (lr : List Int) (r : Nat) : BitVec 64 := if r < 32 then BitVec.ofInt 64 (lr.getD r 0) else 0#64
/-- The registers at the entry. -/
def entry (lr : List Int) (r : Nat) : BitVec 64 := if r = 0 then 0#64 else if r = 1 then 412316860416#64 else if r = 2 then 2147418112#64 else if r = 10 then 65536#64 else given lr r
/-- The machine with no register, frame, fuel. -/
def bare (lc ld : List Int) (x : Nat → BitVec 64) (fu : Int) : Mac := { code := lc, data := pad ld 64, frame := [], x := x, pc := 4194304#64, fuel := fu, steps := 0, done := false, err := 0, tr := [] }
def newM (lc ld lr ls : List Int) (fr fu : Int) : Mac := if bad fr then { bare lc ld (entry lr) fu with done := true, err := 1 } else { bare lc ld (entry lr) fu with frame := pad ls fr.toNat }
def isWords (l : List Int) : Prop := ∀ x ∈ l, 0 ≤ x ∧ x < 18446744073709551616
theorem U_ofInt {v : Int} (h0 : 0 ≤ v) (h1 : v < 18446744073709551616) : U (BitVec.ofInt 64 v) = v := by
  unfold U
  rw [BitVec.toNat_ofInt]
  omega
theorem U_given {lr : List Int} (h : isWords lr) {r : Nat} (hr : r < 32) : U (given lr r) = lr.getD r 0 := by
  unfold given
  rw [if_pos hr]
  rw [List.getD_eq_getElem?_getD]
  cases he : lr[r]? with
  | none => rfl
  | some y =>
    obtain ⟨hl, hy⟩ := List.getElem?_eq_some_iff.1 he
    have := h y (hy ▸ List.getElem_mem hl)
    exact U_ofInt this.1 this.2
/-- A register written. -/
theorem mb_x {T n : Nat} {W : World} {g : Nat} {lc ld : List Int} {x x' : Nat → BitVec 64} {fu : Int} {c d f t q : Value} (h : MB T n W g (vals (bare lc ld x fu) c d f t q)) (r : Nat) (hr : r < 32) (v : Int) (hv : U (x' r) = v) (hx : ∀ k, k < 32 → k ≠ r → x' k = x k) : MB T n (W.setCell ⟨g, 3 + r, none⟩ (.int .u64 v)) g (vals (bare lc ld x' fu) c d f t q) := by
  refine h.put (3 + r) _ _ ?_ fun i hi hne => ?_
  · rw [vals_x _ _ _ _ _ _ _ hr]
    show Value.int .u64 (U (x' r)) = _
    rw [hv]
  · unfold vals
    by_cases h1 : i = 0
    · rw [if_pos h1, if_pos h1]
    rw [if_neg h1, if_neg h1]
    by_cases h2 : i = 1
    · rw [if_pos h2, if_pos h2]
    rw [if_neg h2, if_neg h2]
    by_cases h3 : i = 2
    · rw [if_pos h3, if_pos h3]
    rw [if_neg h3, if_neg h3]
    by_cases h4 : i < 35
    · rw [if_pos h4, if_pos h4]
      show Value.int .u64 (U (x' (i - 3))) = .int .u64 (U (x (i - 3)))
      rw [hx (i - 3) (by omega) (by omega)]
    · rw [if_neg h4, if_neg h4]
      rfl
def setr (x : Nat → BitVec 64) (r : Nat) (v : BitVec 64) : Nat → BitVec 64 := fun k => if k = r then v else x k
theorem entry_setr (lr : List Int) : setr (setr (setr (setr (given lr) 0 0#64) 1 412316860416#64) 2 2147418112#64) 10 65536#64 = entry lr := by
  funext k
  unfold setr entry
  by_cases h0 : k = 0
  · subst h0; rfl
  by_cases h1 : k = 1
  · subst h1; rfl
  by_cases h2 : k = 2
  · subst h2; rfl
  by_cases h10 : k = 10
  · subst h10; rfl
  rw [if_neg h10, if_neg h2, if_neg h1, if_neg h0, if_neg h0, if_neg h1, if_neg h2, if_neg h10]
theorem mb_setr {T n : Nat} {W : World} {g : Nat} {lc ld : List Int} {x : Nat → BitVec 64} {fu : Int} {c d f t q : Value} (h : MB T n W g (vals (bare lc ld x fu) c d f t q)) (r : Nat) (hr : r < 32) (b : BitVec 64) (v : Int) (hv : U b = v) : MB T n (W.setCell ⟨g, 3 + r, none⟩ (.int .u64 v)) g (vals (bare lc ld (setr x r b) fu) c d f t q) :=
  mb_x h r hr v (by unfold setr; rw [if_pos rfl]; exact hv) (fun k _ hk => if_neg hk)
/-- The registers given are copied. -/
theorem mb_copy {T n : Nat} {W : World} {g : Nat} {lc ld lr : List Int} {fu : Int} {c d f t q : Value} {cells : Array Value} (h0 : ∀ i, i < n → cells[i]? = some (vals (bare lc ld (fun _ => 0#64) fu) c d f t q i)) (hn : 35 ≤ n) (hw : isWords lr)
    (h : W.heap[g]? = some (.cells (splice cells.toList 3 ((lr.take 32).map (Value.int .u64))).toArray T (0, 0))) : MB T n W g (vals (bare lc ld (given lr) fu) c d f t q) := by
  refine ⟨_, h, fun i hi => ?_⟩
  have hm : ((lr.take 32).map (Value.int .u64)).length = Nat.min 32 lr.length := by rw [List.length_map, List.length_take]
  have hm2 : Nat.min 32 lr.length ≤ 32 := Nat.min_le_left _ _
  have hs : n ≤ cells.size := by
    have := (Array.getElem?_eq_some_iff.1 (h0 (n - 1) (by omega))).1
    omega
  have hct : cells.toList.length = cells.size := Array.length_toList
  rw [List.getElem?_toArray]
  unfold splice
  rw [List.getElem?_append]
  have ht : (cells.toList.take 3).length = 3 := by rw [List.length_take, hct]; omega
  rw [ht]
  by_cases h3 : i < 3
  · rw [if_pos h3, List.getElem?_take, if_pos h3, Array.getElem?_toList, h0 i hi]
    unfold vals
    by_cases a : i = 0
    · rw [if_pos a, if_pos a]
    rw [if_neg a, if_neg a]
    by_cases b : i = 1
    · rw [if_pos b, if_pos b]
    rw [if_neg b, if_neg b, if_pos (by omega), if_pos (by omega)]
  · rw [if_neg h3, List.getElem?_append]
    by_cases hl : i - 3 < ((lr.take 32).map (Value.int .u64)).length
    · rw [if_pos hl]
      rw [hm] at hl
      have hl2 : i - 3 < lr.length := Nat.lt_of_lt_of_le hl (Nat.min_le_right _ _)
      rw [List.getElem?_map, List.getElem?_take, if_pos (by omega), List.getElem?_eq_getElem hl2]
      have e : vals (bare lc ld (given lr) fu) c d f t q i = .int .u64 (U (given lr (i - 3))) := by
        have := vals_x (bare lc ld (given lr) fu) c d f t q (i - 3) (by omega)
        rw [show 3 + (i - 3) = i by omega] at this
        exact this
      rw [e, U_given hw (by omega), List.getD_eq_getElem?_getD, List.getElem?_eq_getElem hl2]
      rfl
    · rw [if_neg hl, List.getElem?_drop]
      rw [hm] at hl ⊢
      rw [show 3 + Nat.min 32 lr.length + (i - 3 - Nat.min 32 lr.length) = i by omega, Array.getElem?_toList, h0 i hi]
      congr 1
      unfold vals
      rw [if_neg (show ¬ i = 0 by omega), if_neg (show ¬ i = 0 by omega), if_neg (show ¬ i = 1 by omega), if_neg (show ¬ i = 1 by omega), if_neg (show ¬ i = 2 by omega), if_neg (show ¬ i = 2 by omega)]
      by_cases h4 : i < 35
      · rw [if_pos h4, if_pos h4]
        show Value.int .u64 (U 0#64) = .int .u64 (U (given lr (i - 3)))
        have hge : lr.length ≤ i - 3 := by
          by_cases hlt : 32 ≤ lr.length
          · rw [show Nat.min 32 lr.length = 32 from Nat.min_eq_left hlt] at hl; omega
          · rw [show Nat.min 32 lr.length = lr.length from Nat.min_eq_right (by omega)] at hl; omega
        rw [U_given hw (by omega), List.getD_eq_getElem?_getD, List.getElem?_eq_none hge]
        rfl
      · rw [if_neg h4, if_neg h4]
        rfl
end Go.Proofs.YtcgkgaibomcheaaGreat.NewM
end

section
/- What the program's New leaves. No program here. -/
namespace Go.Proofs.YtcgkgaibomcheaaGreat.NewE
open Go.RowKit Go.Proofs.YtcgkgaibomcheaaGreat.Bits Go.Proofs.YtcgkgaibomcheaaGreat.Mac Go.Proofs.YtcgkgaibomcheaaGreat.Mb Go.Proofs.YtcgkgaibomcheaaGreat.Rd Go.Proofs.YtcgkgaibomcheaaGreat.EM Go.Proofs.YtcgkgaibomcheaaGreat.Fill Go.Proofs.YtcgkgaibomcheaaGreat.NewM Go.Proofs.YtcgkgaibomcheaaGreat.PRvemuRuns Go.Proofs.YtcgkgaibomcheaaGreatW.PrintWords Go.Proofs.YtcgkgaibomcheaaGreatW.PrintLast
set_option linter.unusedVariables false
set_option linter.unusedSimpArgs false

/-- What lies below the machine's block. -/
structure Pre (B : Nat) (W : World) (g gm : Nat) (c : Value) (gd : Nat) (lc ld : List Int) : Prop where
  code : Kd.R (Kd.int .u8) 5 W B (fun k => k < g) c lc
  data : Row gd (pad ld 64) W
  map : W.heap[gm]? = some (.map (Tab.tab 34) 34)
  hd : B ≤ gd ∧ gd < g
  hm : B ≤ gm ∧ gm < g
  hg : B ≤ g
theorem Pre.step {B : Nat} {W W' : World} {g gm gd : Nat} {c : Value} {lc ld : List Int} (h : Pre B W g gm c gd lc ld) (hb : ∀ k, k < g → W'.heap[k]? = W.heap[k]?) : Pre B W' g gm c gd lc ld where
  code := Kd.R_mono (Kd.R_step h.code (fun k hk _ => hb k hk)) (fun k hk => hk)
  data := h.data.of (hb gd h.hd.2)
  map := (hb gm h.hm.2).trans h.map
  hd := h.hd
  hm := h.hm
  hg := h.hg
/-- What is handed out. -/
def Out (B : Nat) (W : World) (g gm : Nat) (c d f : Value) (m : Mac) : Prop := ME W g m c d f (.slice none 0 0) gm ∧ CodeAt W (fun k => k < B ∨ k = g ∨ some k = f.ownBlock) c m.code ∧ ∀ k, k = g ∨ k = gm ∨ some k = d.ownBlock ∨ some k = f.ownBlock → B ≤ k
theorem out {B : Nat} {W : World} {g gm gd cd : Nat} {c f : Value} {m : Mac} {ld : List Int} (h : Pre B W g gm c gd m.code ld) (hcd : 64 ≤ cd) (hm : MB 74 42 W g (vals m c (.slice (some ⟨gd, 0, none⟩) 64 cd) f (.slice none 0 0) (.map (some gm))))
    (h1 : m.data = pad ld 64) (h2 : m.tr = []) (hf : SlAt W f m.frame) (hfk : ∀ k, some k = f.ownBlock → g < k ∧ ∃ cs, W.heap[k]? = some (.cells cs 5 (0, 0))) (hfl : m.frame.length ≤ 1048576) (hb1 : isBytes ld) (hb2 : isBytes m.frame) : Out B W g gm c (.slice (some ⟨gd, 0, none⟩) 64 cd) f m := by
  refine ⟨⟨hm, ?_, ⟨gd, cd, rfl, hcd, by rw [h1]; exact h.data, fun e => ?_⟩, hf, fun k hk => (hfk k hk).2, h.map, by rw [h1, pad_len], hfl, by rw [h1]; exact pad_bytes _ _ hb1, hb2⟩, ?_, ?_⟩
  · rw [h2]
    exact TrAt.mk_ (Kd.R_nil k54 54 W 0 (fun _ => True))
  · have := (hfk gd e).1
    have := h.hd.2
    omega
  · obtain ⟨A, cc, rfl, h3, h4⟩ := Kd.R_reads h.code
    refine ⟨A, cc, rfl, h3, h4, fun ad ha hn hk => ?_⟩
    subst ha
    have hlo := Kd.R_base h.code ad.block rfl
    have hhi : ad.block < g := h.code.1 ad.block rfl
    rcases hk with e | e | e
    · omega
    · omega
    · have := (hfk _ e).1
      omega
  · rintro k (rfl | rfl | e | e)
    · exact h.hg
    · exact h.hm.1
    · have : k = gd := by simpa [Value.ownBlock] using e
      subst this
      exact h.hd.1
    · have := (hfk k e).1
      have := h.hg
      omega
theorem pre_new {B b1 : Nat} {w9 w10 w11 : World} {A1 : Option Addr} {c1 gd cd : Nat} {lc ld : List Int} (o : Obj) (hB : B ≤ b1) (hcode : Kd.R (Kd.int .u8) 5 w10 b1 (fun _ => True) (.slice A1 lc.length c1) lc) (hdata : Filled w9 (.slice (some ⟨gd, 0, none⟩) 64 cd) ld 64 w10) (h9 : B ≤ w9.heap.size)
    (hmap : w11.heap[w10.heap.size]? = some (.map (Tab.tab 34) 34)) (hb8 : Below w10.heap.size w10 w11) : Pre B (w11.alloc o) w11.heap.size w10.heap.size (.slice A1 lc.length c1) gd lc ld := by
  obtain ⟨d1, d2, d3⟩ := hdata
  have hgd := (d2 gd rfl).1
  have hrow : Row gd (pad ld 64) w10 := by
    obtain ⟨A, c, e, hc, hr⟩ := d1
    rcases hr with hr | ⟨b, hb, hr⟩
    · have := pad_len ld 64
      rw [hr] at this
      simp at this
    · subst hb
      injection e with e1 e2 e3
      injection e1 with e1
      injection e1 with e1
      subst e1
      exact hr
  have h10 : w9.heap.size ≤ w10.heap.size := d3.size
  have hm := blk_lt hmap
  have hlt := hrow.lt
  refine ⟨Kd.R_mono (Kd.R_bound (Kd.R_alloc (Kd.R_below (Kd.R_bound (Kd.R_lower hcode hB)) hb8) o)) (fun k hk => ?_), (hrow.below hb8).below (below_alloc (Below.refl _ _) o), blk_below hmap (below_alloc (Below.refl _ _) o), ⟨by omega, by omega⟩, ⟨by omega, by omega⟩, by omega⟩
  have := hk.1.2.2.1
  show k < w11.heap.size
  omega
/-- The machine's cells when it is made. -/
def bareCells (fu : Int) (c d q : Value) : Array Value := #[c, d, .slice none 0 0, .int .u64 0, .int .u64 0, .int .u64 0, .int .u64 0, .int .u64 0, .int .u64 0, .int .u64 0, .int .u64 0, .int .u64 0, .int .u64 0, .int .u64 0, .int .u64 0, .int .u64 0, .int .u64 0, .int .u64 0, .int .u64 0, .int .u64 0, .int .u64 0, .int .u64 0, .int .u64 0, .int .u64 0, .int .u64 0, .int .u64 0, .int .u64 0, .int .u64 0, .int .u64 0, .int .u64 0, .int .u64 0, .int .u64 0, .int .u64 0, .int .u64 0, .int .u64 0, .int .u64 4194304, .int .i64 fu, .int .i64 0, .bool false, .int .i64 0, .slice none 0 0, q]
theorem swapw {K : Act → World → Prop} {a : Act} {W W' : World} (h : W = W') (k : K a W) : K a W' := h ▸ k
theorem cells_bare (lc ld : List Int) (fu : Int) (c d q : Value) : ∀ i, i < 42 → (bareCells fu c d q)[i]? = some (vals (bare lc ld (fun _ => 0#64) fu) c d (.slice none 0 0) (.slice none 0 0) q i)
  | 0, _ => rfl
  | 1, _ => rfl
  | 2, _ => rfl
  | 3, _ => rfl
  | 4, _ => rfl
  | 5, _ => rfl
  | 6, _ => rfl
  | 7, _ => rfl
  | 8, _ => rfl
  | 9, _ => rfl
  | 10, _ => rfl
  | 11, _ => rfl
  | 12, _ => rfl
  | 13, _ => rfl
  | 14, _ => rfl
  | 15, _ => rfl
  | 16, _ => rfl
  | 17, _ => rfl
  | 18, _ => rfl
  | 19, _ => rfl
  | 20, _ => rfl
  | 21, _ => rfl
  | 22, _ => rfl
  | 23, _ => rfl
  | 24, _ => rfl
  | 25, _ => rfl
  | 26, _ => rfl
  | 27, _ => rfl
  | 28, _ => rfl
  | 29, _ => rfl
  | 30, _ => rfl
  | 31, _ => rfl
  | 32, _ => rfl
  | 33, _ => rfl
  | 34, _ => rfl
  | 35, _ => rfl
  | 36, _ => rfl
  | 37, _ => rfl
  | 38, _ => rfl
  | 39, _ => rfl
  | 40, _ => rfl
  | 41, _ => rfl
  | n + 42, h => absurd h (by omega)
theorem vals_done (lc ld : List Int) (x : Nat → BitVec 64) (fu : Int) (c d q : Value) (i : Nat) (h1 : i ≠ 38) (h2 : i ≠ 39) : vals { bare lc ld x fu with done := true, err := 1 } c d (.slice none 0 0) (.slice none 0 0) q i = vals (bare lc ld x fu) c d (.slice none 0 0) (.slice none 0 0) q i := by
  unfold vals
  simp only [if_neg h1, if_neg h2]
theorem vals_frame (lc ld l : List Int) (x : Nat → BitVec 64) (fu : Int) (c d f q : Value) (i : Nat) (h1 : i ≠ 2) : vals { bare lc ld x fu with frame := l } c d f (.slice none 0 0) q i = vals (bare lc ld x fu) c d (.slice none 0 0) (.slice none 0 0) q i := by
  unfold vals
  simp only [if_neg h1]
/-- The frame is refused. -/
theorem out_bad {B : Nat} {W : World} {g gm gd cd : Nat} {c : Value} {lc ld lr ls : List Int} {fr fu : Int} (h : Pre B W g gm c gd lc ld) (hcd : 64 ≤ cd) (hm : MB 74 42 W g (vals (bare lc ld (entry lr) fu) c (.slice (some ⟨gd, 0, none⟩) 64 cd) (.slice none 0 0) (.slice none 0 0) (.map (some gm)))) (hb : bad fr) (hb1 : isBytes ld) :
    Out B ((W.setCell ⟨g, 38, none⟩ (.bool true)).setCell ⟨g, 39, none⟩ (.int .i64 1)) g gm c (.slice (some ⟨gd, 0, none⟩) 64 cd) (.slice none 0 0) (newM lc ld lr ls fr fu) := by
  have e : newM lc ld lr ls fr fu = { bare lc ld (entry lr) fu with done := true, err := 1 } := if_pos hb
  rw [e]
  refine out (m := { bare lc ld (entry lr) fu with done := true, err := 1 }) (h.step fun k hk => ?_) hcd ?_ rfl rfl ⟨none, 0, rfl, by show 0 ≤ 0; omega, .inl rfl⟩ (fun k hk => by simp [Value.ownBlock] at hk) (by show 0 ≤ 1048576; omega) hb1 (fun x hx => by cases hx)
  · rw [Below.heap_setCell _ _ _ k (Nat.ne_of_lt hk), Below.heap_setCell _ _ _ k (Nat.ne_of_lt hk)]
  · refine MB.put (v := fun i => if i = 38 then .bool true else vals (bare lc ld (entry lr) fu) c (.slice (some ⟨gd, 0, none⟩) 64 cd) (.slice none 0 0) (.slice none 0 0) (.map (some gm)) i) (hm.put 38 _ _ (if_pos rfl) (fun i hi hne => if_neg hne)) 39 _ _ rfl (fun i hi hne => ?_)
    by_cases h38 : i = 38
    · subst h38; rfl
    · rw [if_neg h38]
      exact vals_done _ _ _ _ _ _ _ _ h38 hne
/-- The frame is laid. -/
theorem out_ok {B : Nat} {W W' : World} {g gm gd cd : Nat} {c f : Value} {lc ld lr ls : List Int} {fr fu : Int} (h : Pre B W g gm c gd lc ld) (hcd : 64 ≤ cd) (hm : MB 74 42 W g (vals (bare lc ld (entry lr) fu) c (.slice (some ⟨gd, 0, none⟩) 64 cd) (.slice none 0 0) (.slice none 0 0) (.map (some gm)))) (hb : ¬ bad fr) (hb1 : isBytes ld) (hb2 : isBytes ls) (hf : Filled W f ls fr.toNat W') :
    Out B (W'.setCell ⟨g, 2, none⟩ f) g gm c (.slice (some ⟨gd, 0, none⟩) 64 cd) f (newM lc ld lr ls fr fu) := by
  have e : newM lc ld lr ls fr fu = { bare lc ld (entry lr) fu with frame := pad ls fr.toNat } := if_neg hb
  rw [e]
  obtain ⟨f1, f2, f3⟩ := hf
  have hlt := hm.lt
  have hfar : ∀ k, some k = f.ownBlock → (W'.setCell ⟨g, 2, none⟩ f).heap[k]? = W'.heap[k]? := fun k hk => Below.heap_setCell _ _ _ k (by have := (f2 k hk).1; show k ≠ g; omega)
  have hfr : fr.toNat ≤ 1048576 := by unfold bad at hb; omega
  refine out (m := { bare lc ld (entry lr) fu with frame := pad ls fr.toNat }) (h.step fun k hk => ?_) hcd ?_ rfl rfl (f1.of (fun k hk _ => hfar k hk)) (fun k hk => ⟨by have := (f2 k hk).1; omega, ?_⟩) (by show (pad ls fr.toNat).length ≤ _; rw [pad_len]; exact hfr) hb1 (pad_bytes _ _ hb2)
  · rw [Below.heap_setCell _ _ _ k (Nat.ne_of_lt hk), f3.block k (by omega)]
  · exact (hm.below f3).put 2 _ _ rfl (fun i hi hne => vals_frame _ _ _ _ _ _ _ _ _ _ hne)
  · obtain ⟨cs, hcs⟩ := (f2 k hk).2
    exact ⟨cs, (hfar k hk).trans hcs⟩
end Go.Proofs.YtcgkgaibomcheaaGreat.NewE
end

section
/- What the document's New leaves. No program here. -/
namespace Go.Proofs.YtcgkgaibomcheaaGreat.NewR
open Go.RowKit Go.Proofs.YtcgkgaibomcheaaGreat.Bits Go.Proofs.YtcgkgaibomcheaaGreat.Mac Go.Proofs.YtcgkgaibomcheaaGreat.Mb Go.Proofs.YtcgkgaibomcheaaGreat.Rd Go.Proofs.YtcgkgaibomcheaaGreat.EM Go.Proofs.YtcgkgaibomcheaaGreat.RM Go.Proofs.YtcgkgaibomcheaaGreat.Fill Go.Proofs.YtcgkgaibomcheaaGreat.NewM Go.Proofs.YtcgkgaibomcheaaGreat.NewE Go.Proofs.YtcgkgaibomcheaaGreat.PRvemuRuns Go.Proofs.YtcgkgaibomcheaaGreatW.PrintWords Go.Proofs.YtcgkgaibomcheaaGreatW.PrintLast
set_option linter.unusedVariables false
set_option linter.unusedSimpArgs false

structure PreR (B : Nat) (W : World) (g gd : Nat) (ld : List Int) : Prop where
  data : Row gd (pad ld 64) W
  hd : B ≤ gd ∧ gd < g
  hg : B ≤ g
def OutR (B : Nat) (W : World) (g : Nat) (c d f : Value) (m : Mac) : Prop := MR W g m c d f (.slice none 0 0) ∧ ∀ k, k = g ∨ some k = d.ownBlock ∨ some k = f.ownBlock → B ≤ k
/-- The machine's cells when it is made. -/
def bareR (fu : Int) (c d : Value) : Array Value := #[c, d, .slice none 0 0, .int .u64 0, .int .u64 0, .int .u64 0, .int .u64 0, .int .u64 0, .int .u64 0, .int .u64 0, .int .u64 0, .int .u64 0, .int .u64 0, .int .u64 0, .int .u64 0, .int .u64 0, .int .u64 0, .int .u64 0, .int .u64 0, .int .u64 0, .int .u64 0, .int .u64 0, .int .u64 0, .int .u64 0, .int .u64 0, .int .u64 0, .int .u64 0, .int .u64 0, .int .u64 0, .int .u64 0, .int .u64 0, .int .u64 0, .int .u64 0, .int .u64 0, .int .u64 0, .int .u64 4194304, .int .i64 fu, .int .i64 0, .bool false, .int .i64 0, .slice none 0 0]
/-- The registers that have been taken over so far. -/
def upto (lr : List Int) (i : Nat) : Nat → BitVec 64 := fun k => if 1 ≤ k ∧ k < i then given lr k else 0#64
end Go.Proofs.YtcgkgaibomcheaaGreat.NewR
end

section
/- The machine run in plain numbers. No memory here. -/
namespace Go.Proofs.YtcgkgaibomcheaaGreat.Pure
open Go.RowKit Go.Proofs.YtcgkgaibomcheaaGreat.Bits Go.Proofs.YtcgkgaibomcheaaGreat.Mac Go.Proofs.YtcgkgaibomcheaaGreat.Dec Go.Proofs.YtcgkgaibomcheaaGreat.NewM Go.Proofs.YtcgkgaibomcheaaGreatW.PrintWords
set_option linter.unusedVariables false
set_option linter.unusedSimpArgs false

/-- So many steps. -/
def it : Nat → Mac → Mac
  | 0, m => m
  | k + 1, m => stepM (it k m)
theorem step_done (m : Mac) (h : m.done = true) : stepM m = m := by
  unfold stepM
  rw [if_pos h]
theorem it_done (m : Mac) {k : Nat} (h : (it k m).done = true) : ∀ j, k ≤ j → it j m = it k m
  | 0, hj => by
    obtain rfl : k = 0 := by omega
    rfl
  | j + 1, hj => by
    by_cases e : k = j + 1
    · rw [e]
    · show stepM (it j m) = _
      rw [it_done m h j (by omega)]
      exact step_done _ h
/-- What does leaves alone. -/
structure Same0 (m m' : Mac) : Prop where
  code : m'.code = m.code
  fuel : m'.fuel = m.fuel
  steps : m'.steps = m.steps
  done : m'.done = m.done
  err : m'.err = m.err
  data : m'.data = m.data
  fl : m'.frame.length = m.frame.length
  x0 : m'.x 0 = m.x 0
theorem Same0.refl (m : Mac) : Same0 m m := ⟨rfl, rfl, rfl, rfl, rfl, rfl, rfl, rfl⟩
theorem Same0.trans {a b c : Mac} (h : Same0 a b) (k : Same0 b c) : Same0 a c := ⟨k.1.trans h.1, k.2.trans h.2, k.3.trans h.3, k.4.trans h.4, k.5.trans h.5, k.6.trans h.6, k.7.trans h.7, k.8.trans h.8⟩
theorem same_setx (m : Mac) (r : Nat) (v : BitVec 64) : Same0 m (setx m r v) := by
  unfold setx
  by_cases h : r = 0
  · rw [if_pos h]; exact Same0.refl m
  · rw [if_neg h]
    exact ⟨rfl, rfl, rfl, rfl, rfl, rfl, rfl, if_neg (fun e => h e.symm)⟩
theorem same_setpc (m : Mac) (p : BitVec 64) : Same0 m (setpc m p) := ⟨rfl, rfl, rfl, rfl, rfl, rfl, rfl, rfl⟩
theorem same_note (m : Mac) (e : PRvemuRuns.S54) : Same0 m (note m e) := ⟨rfl, rfl, rfl, rfl, rfl, rfl, rfl, rfl⟩
theorem same_setf (m : Mac) (l : List Int) (h : l.length = m.frame.length) : Same0 m (setf m l) := ⟨rfl, rfl, rfl, rfl, rfl, rfl, h, rfl⟩
theorem tr_setx (m : Mac) (r : Nat) (v : BitVec 64) : (setx m r v).tr = m.tr := by
  unfold setx
  split <;> rfl
/-- What an instruction tells: an access, or none. -/
def Told (m m' : Mac) : Prop := m'.tr = m.tr ∨ ∃ e, m'.tr = m.tr ++ [e] ∧ (e.f2 = 4 ∨ e.f2 = 8) ∧ ((e.f0 = false ∧ da e.f1 e.f2.toNat = true) ∨ fr m.frame.length e.f1 e.f2.toNat = true)
theorem sz_48 (n : Nat) : ((sz n : Nat) : Int) = 4 ∨ ((sz n : Nat) : Int) = 8 := by
  unfold sz
  by_cases h : n = 11 ∨ n = 14
  · rw [if_pos h]; exact .inr rfl
  · rw [if_neg h]; exact .inl rfl
theorem told_of (m m' : Mac) (h : m'.tr = m.tr) : Told m m' := .inl h
theorem does_ok (m : Mac) (n wd : Nat) : Same0 m (does m n wd).1 ∧ Told m (does m n wd).1 := by
  unfold does
  by_cases h10 : n ≤ 10
  · rw [if_pos h10]
    exact ⟨(same_setpc _ _).trans (same_setx _ _ _), told_of _ _ (tr_setx _ _ _)⟩
  rw [if_neg h10]
  by_cases h13 : n ≤ 13
  · rw [if_pos h13]
    cases hl : loads m (ra m n wd + im n wd) (sz n) with
    | none => exact ⟨Same0.refl m, .inl rfl⟩
    | some v =>
      refine ⟨((same_setpc _ _).trans (same_note _ _)).trans (same_setx _ _ _), .inr ⟨_, tr_setx _ _ _, sz_48 n, ?_⟩⟩
      unfold loads at hl
      by_cases h1 : fr m.frame.length (U (ra m n wd + im n wd)) (sz n) = true
      · exact .inr h1
      · rw [if_neg h1] at hl
        by_cases h2 : da (U (ra m n wd + im n wd)) (sz n) = true
        · exact .inl ⟨rfl, h2⟩
        · rw [if_neg h2] at hl
          cases hl
  rw [if_neg h13]
  by_cases h15 : n ≤ 15
  · rw [if_pos h15]
    by_cases h1 : fr m.frame.length (U (ra m n wd + im n wd)) (sz n) = true
    · rw [if_pos h1]
      exact ⟨((same_setpc _ _).trans (same_setf _ _ (st_length _ _ _ _))).trans (same_note _ _), .inr ⟨_, rfl, sz_48 n, .inr h1⟩⟩
    · rw [if_neg h1]
      exact ⟨Same0.refl m, .inl rfl⟩
  rw [if_neg h15]
  by_cases h28 : n ≤ 28
  · rw [if_pos h28]
    cases RTwo.two n (ra m n wd) (rb m n wd) with
    | none => exact ⟨Same0.refl m, .inl rfl⟩
    | some v => exact ⟨(same_setpc _ _).trans (same_setx _ _ _), told_of _ _ (tr_setx _ _ _)⟩
  rw [if_neg h28]
  by_cases h32 : n ≤ 32
  · rw [if_pos h32]
    exact ⟨same_setpc _ _, .inl rfl⟩
  rw [if_neg h32]
  by_cases h33 : n = 33
  · rw [if_pos h33]
    exact ⟨(same_setpc _ _).trans (same_setx _ _ _), told_of _ _ (tr_setx _ _ _)⟩
  · rw [if_neg h33]
    exact ⟨(same_setpc _ _).trans (same_setx _ _ _), told_of _ _ (tr_setx _ _ _)⟩
/-- What a step does, by its outcome: nothing, an end, or an instruction. -/
theorem step_cases (m : Mac) : (m.done = true ∧ stepM m = m) ∨ (m.done = false ∧ ∃ e, stepM m = fin m e) ∨ (m.done = false ∧ ¬ m.fuel ≤ m.steps ∧ ∃ n, dec (word m) = some n ∧ (does m n (word m)).2 = 0 ∧ stepM m = after (does m n (word m)).1) := by
  by_cases hd : m.done = true
  · exact .inl ⟨hd, step_done m hd⟩
  have hd' : m.done = false := by cases hq : m.done with
    | true => exact absurd hq hd
    | false => rfl
  refine .inr ?_
  unfold stepM
  rw [if_neg hd]
  by_cases hb : m.pc = back
  · rw [if_pos hb]; exact .inl ⟨hd', _, rfl⟩
  rw [if_neg hb]
  by_cases hf : m.fuel ≤ m.steps
  · rw [if_pos hf]; exact .inl ⟨hd', _, rfl⟩
  rw [if_neg hf]
  by_cases hft : fetches m = false
  · rw [if_pos hft]; exact .inl ⟨hd', _, rfl⟩
  rw [if_neg hft]
  cases hw : dec (word m) with
  | none => exact .inl ⟨hd', _, rfl⟩
  | some n =>
    simp only
    by_cases h0 : (does m n (word m)).2 = 0
    · rw [if_pos h0]; exact .inr ⟨hd', hf, n, rfl, h0, rfl⟩
    · rw [if_neg h0]; exact .inl ⟨hd', _, rfl⟩
/-- An access that is told where it may be. -/
def Fine (fl : Nat) (e : PRvemuRuns.S54) : Prop := (e.f2 = 4 ∨ e.f2 = 8) ∧ ((e.f0 = false ∧ da e.f1 e.f2.toNat = true) ∨ fr fl e.f1 e.f2.toNat = true)
/-- What holds all along. -/
structure Inv (m0 m : Mac) : Prop where
  code : m.code = m0.code
  fuel : m.fuel = m0.fuel
  fl : m.frame.length = m0.frame.length
  x0 : m.x 0 = m0.x 0
  steps : 0 ≤ m.steps
  max : m.steps ≤ m.fuel ∨ m.steps = 0
  tr : (m.tr.length : Int) ≤ m.steps
  fine : ∀ e ∈ m.tr, Fine m0.frame.length e
theorem inv_step {m0 m : Mac} (h : Inv m0 m) : Inv m0 (stepM m) := by
  rcases step_cases m with ⟨_, e⟩ | ⟨_, er, e⟩ | ⟨hd, hf, n, hw, h0, e⟩
  · rw [e]; exact h
  · rw [e]; exact ⟨h.1, h.2, h.3, h.4, h.5, h.6, h.7, h.8⟩
  · rw [e]
    obtain ⟨s, t⟩ := does_ok m n (word m)
    have hst := h.steps
    have htr := h.tr
    refine ⟨s.code.trans h.code, s.fuel.trans h.fuel, s.fl.trans h.fl, s.x0.trans h.x0, ?_, ?_, ?_, ?_⟩
    · show 0 ≤ (does m n (word m)).1.steps + 1
      rw [s.steps]; omega
    · show (does m n (word m)).1.steps + 1 ≤ (does m n (word m)).1.fuel ∨ (does m n (word m)).1.steps + 1 = 0
      rw [s.steps, s.fuel]; omega
    · show ((does m n (word m)).1.tr.length : Int) ≤ (does m n (word m)).1.steps + 1
      rw [s.steps]
      rcases t with t | ⟨x, t, _⟩
      · rw [t]; omega
      · rw [t, List.length_append, List.length_singleton]; omega
    · show ∀ x ∈ (does m n (word m)).1.tr, _
      rcases t with t | ⟨x, t, t2, t3⟩
      · rw [t]; exact h.fine
      · rw [t]
        intro y hy
        rcases List.mem_append.1 hy with hy | hy
        · exact h.fine y hy
        · rw [List.mem_singleton] at hy
          subst hy
          rw [h.fl] at t3
          exact ⟨t2, t3⟩
theorem inv_it {m0 m : Mac} (h : Inv m0 m) : ∀ k, Inv m0 (it k m)
  | 0 => h
  | k + 1 => inv_step (inv_it h k)
/-- As long as it goes on, each step counts. -/
theorem it_steps (m : Mac) (h0 : m.steps = 0) : ∀ k, (it k m).done = false → m.done = false → (it k m).steps = k
  | 0, _, _ => h0
  | k + 1, hd, hm => by
    have hk : (it k m).done = false := by
      cases hq : (it k m).done with
      | false => rfl
      | true =>
        have e : it (k + 1) m = it k m := step_done _ hq
        rw [e, hq] at hd
        cases hd
    have ih := it_steps m h0 k hk hm
    show (stepM (it k m)).steps = _
    have hd2 : (stepM (it k m)).done = false := hd
    rcases step_cases (it k m) with ⟨e, _⟩ | ⟨_, er, e⟩ | ⟨_, hf, n, hw, hz, e⟩
    · rw [hk] at e; cases e
    · rw [e] at hd2; cases hd2
    · rw [e]
      show (does (it k m) n (word (it k m))).1.steps + 1 = _
      rw [(does_ok _ n _).1.steps, ih]
      omega
theorem it_fuel (m : Mac) : ∀ k, (it k m).fuel = m.fuel
  | 0 => rfl
  | k + 1 => by
    show (stepM (it k m)).fuel = _
    rw [← it_fuel m k]
    rcases step_cases (it k m) with ⟨_, e⟩ | ⟨_, er, e⟩ | ⟨_, hf, n, hw, hz, e⟩
    · rw [e]
    · rw [e]; rfl
    · rw [e]; exact (does_ok _ n _).1.fuel
/-- Within its fuel it ends. -/
theorem it_ends (m : Mac) (h0 : m.steps = 0) : (it (m.fuel.toNat + 1) m).done = true := by
  cases hd : (it (m.fuel.toNat + 1) m).done with
  | true => rfl
  | false =>
    exfalso
    have hm : m.done = false := by
      cases hq : m.done with
      | false => rfl
      | true =>
        have e := it_done m (k := 0) hq (m.fuel.toNat + 1) (by omega)
        rw [e] at hd
        rw [← hd]
        exact hq.symm
    have hk : (it m.fuel.toNat m).done = false := by
      cases hq : (it m.fuel.toNat m).done with
      | false => rfl
      | true =>
        have e : it (m.fuel.toNat + 1) m = it m.fuel.toNat m := step_done _ hq
        rw [e, hq] at hd
        cases hd
    have hs := it_steps m h0 _ hk hm
    have hf := it_fuel m m.fuel.toNat
    have hd2 : (stepM (it m.fuel.toNat m)).done = false := hd
    rcases step_cases (it m.fuel.toNat m) with ⟨e, _⟩ | ⟨_, er, e⟩ | ⟨_, hff, n, hw, hz, e⟩
    · rw [hk] at e; cases e
    · rw [e] at hd2; cases hd2
    · rw [hs, hf] at hff
      omega
/-- To its end. -/
def runM (m : Mac) : Mac := it (m.fuel.toNat + 1) m
theorem runM_of (m : Mac) (h0 : m.steps = 0) {k : Nat} (h : (it k m).done = true) : runM m = it k m := by
  have he := it_ends m h0
  unfold runM
  by_cases hk : k ≤ m.fuel.toNat + 1
  · exact it_done m h _ hk
  · exact (it_done m he _ (by omega)).symm
end Go.Proofs.YtcgkgaibomcheaaGreat.Pure
end

section
/- A machine that goes: what is kept from step to step. No program here. -/
namespace Go.Proofs.YtcgkgaibomcheaaGreat.Goes
open Go.RowKit Go.Proofs.YtcgkgaibomcheaaGreat.Bits Go.Proofs.YtcgkgaibomcheaaGreat.Mac Go.Proofs.YtcgkgaibomcheaaGreat.Mb Go.Proofs.YtcgkgaibomcheaaGreat.Rd Go.Proofs.YtcgkgaibomcheaaGreat.EM Go.Proofs.YtcgkgaibomcheaaGreat.EDo Go.Proofs.YtcgkgaibomcheaaGreat.RM Go.Proofs.YtcgkgaibomcheaaGreat.NewM Go.Proofs.YtcgkgaibomcheaaGreat.NewE Go.Proofs.YtcgkgaibomcheaaGreat.NewR Go.Proofs.YtcgkgaibomcheaaGreat.Pure Go.Proofs.YtcgkgaibomcheaaGreat.PRvemuRuns Go.Proofs.YtcgkgaibomcheaaGreatW.PrintWords Go.Proofs.YtcgkgaibomcheaaGreatW.PrintLast
set_option linter.unusedVariables false
set_option linter.unusedSimpArgs false

theorem below_wr {B : Nat} {w W W' : World} {S : Nat → Prop} (hb : Below B w W) (hB : B ≤ W.heap.size) (hw : Wr S W W') (hS : ∀ k, k < W.heap.size → S k → B ≤ k) : Below B w W' := by
  obtain ⟨⟨h1, h2⟩, h3, h4, h5⟩ := hw
  exact ⟨h3.trans hb.os, h4.trans hb.tape, h5.trans hb.output, Nat.le_trans hb.size h1, fun k hk => (h2 k (by omega) (fun hs => by have := hS k (by omega) hs; omega)).trans (hb.block k hk)⟩
theorem code_step (m : Mac) : (stepM m).code = m.code := by
  rcases step_cases m with ⟨_, e⟩ | ⟨_, er, e⟩ | ⟨_, hf, n, hw, hz, e⟩
  · rw [e]
  · rw [e]; rfl
  · rw [e]; exact (does_ok _ n _).1.code
/-- The blocks that the program's machine may write. -/
def SE (B B1 g : Nat) (f : Value) (k : Nat) : Prop := k < B ∨ k = g ∨ some k = f.ownBlock ∨ B1 ≤ k
structure GoE (B B1 : Nat) (g gm : Nat) (c d f t : Value) (W : World) (m : Mac) : Prop where
  me : ME W g m c d f t gm
  code : CodeAt W (SE B B1 g f) c m.code
  own : ∀ k, some k = t.ownBlock → B1 ≤ k
  low : ∀ k, k = g ∨ k = gm ∨ some k = d.ownBlock ∨ some k = f.ownBlock → B ≤ k
  high : ∀ k, k = g ∨ k = gm ∨ some k = d.ownBlock ∨ some k = f.ownBlock → k < B1
  size : B1 ≤ W.heap.size
  hB : B ≤ B1
theorem goE_new {B : Nat} {W : World} {g gm : Nat} {c d f : Value} {m : Mac} (h : Out B W g gm c d f m) (hB : B ≤ W.heap.size) : GoE B W.heap.size g gm c d f (.slice none 0 0) W m := by
  obtain ⟨h1, h2, h3⟩ := h
  refine ⟨h1, h2.imp (fun k hk hs => ?_), fun k hk => by simp [Value.ownBlock] at hk, h3, fun k hk => ?_, Nat.le_refl _, hB⟩
  · rcases hs with e | e | e | e
    · exact .inl e
    · exact .inr (.inl e)
    · exact .inr (.inr e)
    · omega
  · rcases hk with e | e | e | e
    · rw [e]; exact h1.mb.lt
    · rw [e]; exact blk_lt h1.map
    · obtain ⟨gd, cd, q1, q2, q3, q4⟩ := h1.data
      rw [q1] at e
      have : k = gd := by simpa [Value.ownBlock] using e
      rw [this]; exact q3.lt
    · obtain ⟨cs, q⟩ := h1.fty k e
      exact blk_lt q
theorem GoE.owned {B B1 g gm : Nat} {c d f t : Value} {W : World} {m : Mac} (h : GoE B B1 g gm c d f t W m) (k : Nat) (hk : EM.own g f t k) : SE B B1 g f k ∧ B ≤ k := by
  rcases hk with e | e | e
  · exact ⟨.inr (.inl e), h.low k (.inl e)⟩
  · exact ⟨.inr (.inr (.inl e)), h.low k (.inr (.inr (.inr e)))⟩
  · have := h.own k e
    have := h.hB
    exact ⟨.inr (.inr (.inr (h.own k e))), by omega⟩
theorem GoE.step {B B1 g gm : Nat} {c d f t : Value} {W W' : World} {m : Mac} (h : GoE B B1 g gm c d f t W m) (hl : Lft W g gm (stepM m) c d f t W') : ∃ t', GoE B B1 g gm c d f t' W' (stepM m) := by
  obtain ⟨t1, a1, a2, a3⟩ := hl
  refine ⟨t1, a1, ?_, fun k hk => ?_, h.low, h.high, Nat.le_trans h.size a2.1.1, h.hB⟩
  · rw [code_step]
    exact h.code.kept a2.1 (fun k _ hk => (h.owned k hk).1)
  · rcases a3 k hk with e | e
    · exact h.own k e
    · exact Nat.le_trans h.size e
/-- The document's machine. -/
structure GoR (B : Nat) (g : Nat) (c d f t : Value) (W : World) (m : Mac) : Prop where
  mr : MR W g m c d f t
  code : CodeAt W (fun k => B ≤ k) c m.code
  low : ∀ k, k = g ∨ some k = d.ownBlock ∨ some k = f.ownBlock ∨ some k = t.ownBlock → B ≤ k
  size : B ≤ W.heap.size
/-- The invariant at the entry. -/
theorem inv_new (lc ld lr ls : List Int) (fr fu : Int) : Inv (newM lc ld lr ls fr fu) (newM lc ld lr ls fr fu) := by
  unfold newM
  by_cases h : bad fr
  · rw [if_pos h]
    exact ⟨rfl, rfl, rfl, rfl, by show (0 : Int) ≤ 0; omega, .inr rfl, by show ((0 : Nat) : Int) ≤ 0; omega, fun e he => by cases he⟩
  · rw [if_neg h]
    exact ⟨rfl, rfl, rfl, rfl, by show (0 : Int) ≤ 0; omega, .inr rfl, by show ((0 : Nat) : Int) ≤ 0; omega, fun e he => by cases he⟩
theorem new_code (lc ld lr ls : List Int) (fr fu : Int) : (newM lc ld lr ls fr fu).code = lc := by unfold newM; split <;> rfl
theorem new_steps (lc ld lr ls : List Int) (fr fu : Int) : (newM lc ld lr ls fr fu).steps = 0 := by unfold newM; split <;> rfl
theorem new_fuel (lc ld lr ls : List Int) (fr fu : Int) : (newM lc ld lr ls fr fu).fuel = fu := by unfold newM; split <;> rfl
theorem new_x0 (lc ld lr ls : List Int) (fr fu : Int) : (newM lc ld lr ls fr fu).x 0 = 0#64 := by unfold newM; split <;> rfl
end Go.Proofs.YtcgkgaibomcheaaGreat.Goes
end
