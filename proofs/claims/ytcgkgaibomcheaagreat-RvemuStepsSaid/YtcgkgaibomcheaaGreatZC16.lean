/- Joined out of this claim's texts: EStep, RLoad, RStore, RM. Conditions: those of each theorem. -/
import Derived.Test.YtcgkgaibomcheaaGreatZC01
import Derived.Test.YtcgkgaibomcheaaGreatZC14
import Derived.Test.YtcgkgaibomcheaaGreatZC15
import Derived.Test.YtcgkgaibomcheaaGreatZC08
import Derived.Test.YtcgkgaibomcheaaGreatZC09
import Derived.Test.YtcgkgaibomcheaaGreatZC07
import Derived.Test.YtcgkgaibomcheaaGreatZC03
import Derived.Test.YtcgkgaibomcheaaGreatZC12
set_option linter.unusedVariables false
set_option linter.unusedSimpArgs false
section
namespace Go.Proofs.YtcgkgaibomcheaaGreat.EStep
open Go.RowKit Bits Dec Mac Mb Rd RDec EM EDo EDo2 PRvemuRuns YtcgkgaibomcheaaGreatW.PrintWords YtcgkgaibomcheaaGreatW.PrintLast YtcgkgaibomcheaaGreatW.PrintMore
section
variable {W W' : World} {g gm : Nat} {m : Mac} {c d f t : Value}
theorem vals_fin (m : Mac) (c d f t q : Value) (e : Int) : Ends.fin (vals m c d f t q) e = vals (fin m e) c d f t q := by
  funext i
  unfold Ends.fin vals fin
  by_cases h : i = 39
  · subst h; rfl
  · rw [if_neg h]
    by_cases h2 : i = 38
    · subst h2; rfl
    · rw [if_neg h2]
      simp only [if_neg h, if_neg h2]
theorem ends_left (h : ME W g m c d f t gm) (e : Int) : Calls Tryz.prog 39 #[.pointer (some ⟨g, 0, none⟩), .int .i64 e] W fun e' w' => e' = .returned (.bool true) ∧ Lft W g gm (fin m e) c d f t w' :=
  (Ends.ends g _ e W h.mb).mono fun e' w' ⟨he, hm, ho⟩ => ⟨he, left_only h ho _ (by rw [← vals_fin]; exact hm) rfl rfl rfl⟩
theorem lft_then {m1 m2 : Mac} {W1 W2 : World} (h : Lft W g gm m1 c d f t W1) (k : ∀ t1, ME W1 g m1 c d f t1 gm → Lft W1 g gm m2 c d f t1 W2) : Lft W g gm m2 c d f t W2 := by
  obtain ⟨t1, a1, a2, a3⟩ := h
  obtain ⟨t2, b1, b2, b3⟩ := k t1 a1
  refine ⟨t2, b1, a2.then_ b2 (fun k hk => ?_), fun k hk => ?_⟩
  · rcases hk with e | e | e
    · exact .inl (.inl e)
    · exact .inl (.inr (.inl e))
    · rcases a3 k e with e | e
      · exact .inl (.inr (.inr e))
      · exact .inr e
  · rcases b3 k hk with e | e
    · exact a3 k e
    · exact .inr (Nat.le_trans a2.1.1 e)
set_option maxRecDepth 20000 in
theorem step_done (h : ME W g m c d f t gm) (hd : m.done = true) : Calls Tryz.prog 25 #[.pointer (some ⟨g, 0, none⟩)] W fun e w' => e = .returned (.bool (stepM m).done) ∧ Lft W g gm (stepM m) c d f t w' := by
  have hs : stepM m = m := by unfold stepM; rw [if_pos hd]
  rw [hs, hd]
  have c38 := (h.mb.cell 38 (by omega)).trans (congrArg some (show vals m c d f t (.map (some gm)) 38 = .bool true from by show Value.bool m.done = _; rw [hd]))
  have HL := Aside0.mk (left_below h (Below.refl _ _))
  clear h hd hs
  go_enter Tryz.func25, Tryz.ntmps25
  go_wp2
  go_ret
  exact ⟨rfl, HL.out⟩
set_option maxRecDepth 20000 in
theorem step_back (h : ME W g m c d f t gm) (hd : m.done = false) (hb : m.pc = back) : Calls Tryz.prog 25 #[.pointer (some ⟨g, 0, none⟩)] W fun e w' => e = .returned (.bool (stepM m).done) ∧ Lft W g gm (stepM m) c d f t w' := by
  have hs : stepM m = fin m 0 := by unfold stepM; rw [if_neg (by rw [hd]; simp), if_pos hb]
  rw [hs, show (fin m 0).done = true from rfl]
  have c38 := (h.mb.cell 38 (by omega)).trans (congrArg some (show vals m c d f t (.map (some gm)) 38 = .bool false from by show Value.bool m.done = _; rw [hd]))
  have c35 := (h.mb.cell 35 (by omega)).trans (congrArg some (show vals m c d f t (.map (some gm)) 35 = .int .u64 412316860416 from by show Value.int .u64 (U m.pc) = _; rw [hb]; rfl))
  have HE := Aside0.mk (ends_left h 0)
  clear h hd hs hb
  go_enter Tryz.func25, Tryz.ntmps25
  go_wp2_with fail
  refine HE.out.mono ?_
  rintro e w1 ⟨rfl, hl⟩
  have HL := Aside0.mk hl
  clear hl
  go_wp2
  go_ret
  exact ⟨rfl, HL.out⟩
theorem lft_below {m2 : Mac} {W1 W2 : World} (hb : Below W.heap.size W W1) (h : Lft W1 g gm m2 c d f t W2) : Lft W g gm m2 c d f t W2 := by
  obtain ⟨t2, b1, b2, b3⟩ := h
  exact ⟨t2, b1, ((Wr.refl _ _).below hb).then_ b2 (fun k e => .inl e), fun k e => (b3 k e).imp_right (fun hle => Nat.le_trans hb.size hle)⟩
theorem ends_lft {m1 : Mac} (hw : Lft W g gm m1 c d f t W') (er : Int) : Calls Tryz.prog 39 #[.pointer (some ⟨g, 0, none⟩), .int .i64 er] W' fun e w' => e = .returned (.bool true) ∧ Lft W g gm (fin m1 er) c d f t w' := by
  obtain ⟨t1, a1, a2, a3⟩ := hw
  refine (ends_left a1 er).mono fun e w' hh => ⟨hh.1, ?_⟩
  obtain ⟨t2, b1, b2, b3⟩ := hh.2
  refine ⟨t2, b1, a2.then_ b2 (fun k hk => ?_), fun k hk => ?_⟩
  · rcases hk with e | e | e
    · exact .inl (.inl e)
    · exact .inl (.inr (.inl e))
    · rcases a3 k e with e | e
      · exact .inl (.inr (.inr e))
      · exact .inr e
  · rcases b3 k hk with e | e
    · exact a3 k e
    · exact .inr (Nat.le_trans a2.1.1 e)
theorem pc_ne {p : BitVec 64} (h : ¬ p = back) : (U p == (412316860416 : Int)) = false := by
  rw [beq_eq_false_iff_ne]
  intro e
  exact h (U_inj (e.trans rfl))
set_option maxRecDepth 20000 in
theorem step_fuel (h : ME W g m c d f t gm) (hd : m.done = false) (hb : ¬ m.pc = back) (hf : m.fuel ≤ m.steps) : Calls Tryz.prog 25 #[.pointer (some ⟨g, 0, none⟩)] W fun e w' => e = .returned (.bool (stepM m).done) ∧ Lft W g gm (stepM m) c d f t w' := by
  have hs : stepM m = fin m 3 := by unfold stepM; rw [if_neg (by rw [hd]; simp), if_neg hb, if_pos hf]
  rw [hs, show (fin m 3).done = true from rfl]
  have c38 := (h.mb.cell 38 (by omega)).trans (congrArg some (show vals m c d f t (.map (some gm)) 38 = .bool false from by show Value.bool m.done = _; rw [hd]))
  have c35 := (h.mb.cell 35 (by omega)).trans (congrArg some (show vals m c d f t (.map (some gm)) 35 = .int .u64 (U m.pc) from rfl))
  have c36 := (h.mb.cell 36 (by omega)).trans (congrArg some (show vals m c d f t (.map (some gm)) 36 = .int .i64 m.fuel from rfl))
  have c37 := (h.mb.cell 37 (by omega)).trans (congrArg some (show vals m c d f t (.map (some gm)) 37 = .int .i64 m.steps from rfl))
  have t1 := pc_ne hb
  have t2 : decide (m.steps ≥ m.fuel) = true := decide_eq_true hf
  have t3 : decide (m.fuel ≤ m.steps) = true := decide_eq_true hf
  have HE := Aside0.mk (fun (n : Nat) => ends_lft (left_below h (pw_below_drewN (Below.refl W.heap.size W) n)) 3)
  clear h hd hs hb
  generalize U m.pc = p at *
  generalize m.steps = s at *
  generalize m.fuel = u at *
  go_enter Tryz.func25, Tryz.ntmps25
  go_wp2_with fail
  go_quiet (fail)
  go_wp2_with fail
  refine (HE.out nq).mono ?_
  rintro e w1 ⟨rfl, hl⟩
  have HL := Aside0.mk hl
  clear hl
  go_wp2
  go_ret
  exact ⟨rfl, HL.out⟩
structure Tests (W : World) (g : Nat) (p s u : Int) : Prop where
  c38 : W.cell? ⟨g, 38, none⟩ = some (.bool false)
  c35 : W.cell? ⟨g, 35, none⟩ = some (.int .u64 p)
  c36 : W.cell? ⟨g, 36, none⟩ = some (.int .i64 u)
  c37 : W.cell? ⟨g, 37, none⟩ = some (.int .i64 s)
  t1 : (p == 412316860416) = false
  t2 : decide (s ≥ u) = false
  t3 : decide (u ≤ s) = false
theorem tests (h : ME W g m c d f t gm) (hd : m.done = false) (hb : ¬ m.pc = back) (hf : ¬ m.fuel ≤ m.steps) : Tests W g (U m.pc) m.steps m.fuel where
  c38 := (h.mb.cell 38 (by omega)).trans (congrArg some (show vals m c d f t (.map (some gm)) 38 = .bool false from by show Value.bool m.done = _; rw [hd]))
  c35 := (h.mb.cell 35 (by omega)).trans (congrArg some (show vals m c d f t (.map (some gm)) 35 = .int .u64 (U m.pc) from rfl))
  c36 := (h.mb.cell 36 (by omega)).trans (congrArg some (show vals m c d f t (.map (some gm)) 36 = .int .i64 m.fuel from rfl))
  c37 := (h.mb.cell 37 (by omega)).trans (congrArg some (show vals m c d f t (.map (some gm)) 37 = .int .i64 m.steps from rfl))
  t1 := pc_ne hb
  t2 := decide_eq_false (by omega)
  t3 := decide_eq_false hf
set_option maxRecDepth 20000 in
set_option maxHeartbeats 1000000 in
theorem step_bad (h : ME W g m c d f t gm) (hd : m.done = false) (hb : ¬ m.pc = back) (hf : ¬ m.fuel ≤ m.steps) (er : Int) (her : er ≠ 0)
    (FC : ∀ W', Below W.heap.size W W' → Calls Tryz.prog 40 #[.pointer (some ⟨g, 0, none⟩)] W' fun e w' => e = .returned (.tuple #[ins0, .int .i64 er]) ∧ Below W'.heap.size W' w') :
    Calls Tryz.prog 25 #[.pointer (some ⟨g, 0, none⟩)] W fun e w' => e = .returned (.bool true) ∧ Lft W g gm (fin m er) c d f t w' := by
  obtain ⟨c38, c35, c36, c37, t1, t2, t3⟩ := tests h hd hb hf
  have q1 : (er == 0) = false := beq_eq_false_iff_ne.2 her
  have q2 : (er != 0) = true := bne_iff_ne.2 her
  have HE := Aside0.mk (fun (W' : World) (hw : Below W.heap.size W W') => ends_lft (left_below h hw) er)
  have HF := Aside0.mk FC
  unfold ins0 at HF
  clear h hd hb hf FC her
  generalize U m.pc = p at *
  generalize m.steps = s at *
  generalize m.fuel = u at *
  go_enter Tryz.func25, Tryz.ntmps25
  go_wp2_with fail
  go_quiet (fail)
  go_wp2_with fail
  refine (HF.out _ (pw_below_drewN (Below.refl _ _) nq)).mono ?_
  rintro e w1 ⟨rfl, hb1⟩
  have HB1 := Aside0.mk (below_step (pw_below_drewN (Below.refl W.heap.size W) nq) hb1)
  clear hb1 HF
  go_wp2_with fail
  refine (HE.out _ (below_alloc HB1.out _)).mono ?_
  rintro e w2 ⟨rfl, hl⟩
  have HL := Aside0.mk hl
  clear hl
  go_wp2
  go_ret
  exact ⟨rfl, HL.out⟩
set_option maxRecDepth 20000 in
set_option maxHeartbeats 1000000 in
theorem step_fails (h : ME W g m c d f t gm) (hd : m.done = false) (hb : ¬ m.pc = back) (hf : ¬ m.fuel ≤ m.steps) (n wd : Nat) (er : Int) (her : er ≠ 0)
    (FC : ∀ W', Below W.heap.size W W' → Calls Tryz.prog 40 #[.pointer (some ⟨g, 0, none⟩)] W' fun e w' => e = .returned (.tuple #[insOf n wd, .int .i64 0]) ∧ Below W'.heap.size W' w')
    (DC : ∀ W', Below W.heap.size W W' → Calls Tryz.prog 41 #[.pointer (some ⟨g, 0, none⟩), insOf n wd] W' fun e w' => e = .returned (.int .i64 er) ∧ Lft W' g gm m c d f t w') :
    Calls Tryz.prog 25 #[.pointer (some ⟨g, 0, none⟩)] W fun e w' => e = .returned (.bool true) ∧ Lft W g gm (fin m er) c d f t w' := by
  obtain ⟨c38, c35, c36, c37, t1, t2, t3⟩ := tests h hd hb hf
  have q1 : (er == 0) = false := beq_eq_false_iff_ne.2 her
  have q2 : (er != 0) = true := bne_iff_ne.2 her
  have HE := Aside0.mk (fun (W' : World) (hw : Lft W g gm m c d f t W') => ends_lft hw er)
  have HF := Aside0.mk FC
  have HDO := Aside0.mk DC
  have HI := Aside0.mk (show insOf n wd = .agg #[.int .i64 (n : Int), .int .i64 (fdOf n wd : Nat), .int .i64 (fs1Of n wd : Nat), .int .i64 (fs2Of n wd : Nat), .int .i64 (immOf (formOf n) wd)] from rfl)
  rw [HI.out] at HF HDO
  generalize ((fdOf n wd : Nat) : Int) = a1 at *
  generalize ((fs1Of n wd : Nat) : Int) = a2 at *
  generalize ((fs2Of n wd : Nat) : Int) = a3 at *
  generalize immOf (formOf n) wd = a4 at *
  clear h hd hb hf FC DC her HI
  generalize U m.pc = p at *
  generalize m.steps = s at *
  generalize m.fuel = u at *
  go_enter Tryz.func25, Tryz.ntmps25
  go_wp2_with fail
  go_quiet (fail)
  go_wp2_with fail
  refine (HF.out _ (pw_below_drewN (Below.refl _ _) nq)).mono ?_
  rintro e w1 ⟨rfl, hb1⟩
  have HB1 := Aside0.mk (below_step (pw_below_drewN (Below.refl W.heap.size W) nq) hb1)
  clear hb1 HF
  go_wp2_with fail
  refine (HDO.out _ (below_alloc HB1.out _)).mono ?_
  rintro e w2 ⟨rfl, hl2⟩
  have HL2 := Aside0.mk (lft_below (below_alloc HB1.out _) hl2)
  clear hl2
  go_wp2_with fail
  refine (HE.out _ HL2.out).mono ?_
  rintro e w3 ⟨rfl, hl⟩
  have HL := Aside0.mk hl
  clear hl HL2
  go_wp2
  go_ret
  exact ⟨rfl, HL.out⟩
theorem pc_eq (p : BitVec 64) : (U p == (412316860416 : Int)) = decide (p = back) := by
  rw [Bool.eq_iff_iff, beq_iff_eq, decide_eq_true_iff]
  exact ⟨fun e => U_inj (e.trans rfl), fun e => by rw [e]; rfl⟩
theorem ME.after (h : ME W g m c d f t gm) : ME ((W.setCell ⟨g, 37, none⟩ (.int .i64 (m.steps + 1))).setCell ⟨g, 38, none⟩ (.bool (decide (m.pc = back)))) g (after m) c d f t gm := by
  refine ME.put (m := { m with steps := m.steps + 1 }) (ME.put h 37 _ { m with steps := m.steps + 1 } rfl (fun i _ hi => ?_) rfl rfl rfl) 38 _ (Mac.after m) rfl (fun i _ hi => ?_) rfl rfl rfl
  · unfold vals
    simp only [if_neg hi]
  · unfold vals Mac.after
    simp only [if_neg hi]
theorem after_lft {m1 : Mac} (hw : Lft W g gm m1 c d f t W') : Lft W g gm (after m1) c d f t ((W'.setCell ⟨g, 37, none⟩ (.int .i64 (m1.steps + 1))).setCell ⟨g, 38, none⟩ (.bool (decide (m1.pc = back)))) := by
  obtain ⟨t1, a1, a2, a3⟩ := hw
  exact ⟨t1, ME.after a1, (a2.set (p := ⟨g, 37, none⟩) (.inl (.inl rfl)) _).set (p := ⟨g, 38, none⟩) (.inl (.inl rfl)) _, a3⟩
set_option maxRecDepth 20000 in
set_option maxHeartbeats 1000000 in
theorem step_runs (h : ME W g m c d f t gm) (hd : m.done = false) (hb : ¬ m.pc = back) (hf : ¬ m.fuel ≤ m.steps) (n wd : Nat) (m1 : Mac) (s0 : -9223372036854775808 ≤ m1.steps) (s1 : m1.steps < 9223372036854775807)
    (FC : ∀ W', Below W.heap.size W W' → Calls Tryz.prog 40 #[.pointer (some ⟨g, 0, none⟩)] W' fun e w' => e = .returned (.tuple #[insOf n wd, .int .i64 0]) ∧ Below W'.heap.size W' w')
    (DC : ∀ W', Below W.heap.size W W' → Calls Tryz.prog 41 #[.pointer (some ⟨g, 0, none⟩), insOf n wd] W' fun e w' => e = .returned (.int .i64 0) ∧ Lft W' g gm m1 c d f t w') :
    Calls Tryz.prog 25 #[.pointer (some ⟨g, 0, none⟩)] W fun e w' => e = .returned (.bool (after m1).done) ∧ Lft W g gm (after m1) c d f t w' := by
  obtain ⟨c38, c35, c36, c37, t1, t2, t3⟩ := tests h hd hb hf
  have HF := Aside0.mk FC
  have HDO := Aside0.mk DC
  have HI := Aside0.mk (show insOf n wd = .agg #[.int .i64 (n : Int), .int .i64 (fdOf n wd : Nat), .int .i64 (fs1Of n wd : Nat), .int .i64 (fs2Of n wd : Nat), .int .i64 (immOf (formOf n) wd)] from rfl)
  rw [HI.out] at HF HDO
  have HAD := Aside0.mk (show (after m1).done = decide (m1.pc = back) from rfl)
  have HCL := Aside0.mk (show ∀ W2, Lft W g gm m1 c d f t W2 → W2.cell? ⟨g, 37, none⟩ = some (.int .i64 m1.steps) ∧ W2.cell? ⟨g, 35, none⟩ = some (.int .u64 (U m1.pc)) ∧ (∃ u, W2.cell? ⟨g, 38, none⟩ = some u) ∧ W2.frozen? ⟨g, 37, none⟩ = false ∧ W2.frozen? ⟨g, 38, none⟩ = false from fun W2 hw => by
    obtain ⟨t1, a1, a2, a3⟩ := hw
    exact ⟨a1.mb.cell 37 (by omega), a1.mb.cell 35 (by omega), ⟨_, a1.mb.cell 38 (by omega)⟩, a1.mb.frozen 37, a1.mb.frozen 38⟩)
  have HAF := Aside0.mk (fun (W2 : World) (hw : Lft W g gm m1 c d f t W2) => after_lft hw)
  have hq := pc_eq m1.pc
  have hw1 : wrap64 (m1.steps + 1) = m1.steps + 1 := by unfold wrap64; omega
  generalize ((fdOf n wd : Nat) : Int) = a1 at *
  generalize ((fs1Of n wd : Nat) : Int) = a2 at *
  generalize ((fs2Of n wd : Nat) : Int) = a3 at *
  generalize immOf (formOf n) wd = a4 at *
  clear h hd hb hf FC DC HI
  generalize U m.pc = p at *
  generalize m.steps = s at *
  generalize m.fuel = u at *
  rw [HAD.out]
  obtain ⟨dn, hdn⟩ : ∃ dn, decide (m1.pc = back) = dn := ⟨_, rfl⟩
  rw [hdn] at HAF hq ⊢
  clear hdn HAD
  obtain ⟨p1, hp1⟩ : ∃ p1, U m1.pc = p1 := ⟨_, rfl⟩
  rw [hp1] at hq HCL
  clear hp1
  obtain ⟨s2, hs2⟩ : ∃ s2, m1.steps = s2 := ⟨_, rfl⟩
  rw [hs2] at hw1 HCL s0 s1 HAF
  clear hs2
  go_enter Tryz.func25, Tryz.ntmps25
  go_wp2_with fail
  go_quiet (fail)
  go_wp2_with fail
  refine (HF.out _ (pw_below_drewN (Below.refl _ _) nq)).mono ?_
  rintro e w1 ⟨rfl, hb1⟩
  have HB1 := Aside0.mk (below_step (pw_below_drewN (Below.refl W.heap.size W) nq) hb1)
  clear hb1 HF
  go_wp2_with fail
  refine (HDO.out _ (below_alloc HB1.out _)).mono ?_
  rintro e w2 ⟨rfl, hl2⟩
  have HL2 := Aside0.mk (lft_below (below_alloc HB1.out _) hl2)
  clear hl2
  obtain ⟨k37, k35, ⟨uu, k38⟩, f37, f38⟩ := HCL.out _ HL2.out
  clear HCL
  go_wp2
  go_ret
  exact ⟨rfl, HAF.out _ HL2.out⟩
theorem does_steps (m : Mac) (n wd : Nat) : (does m n wd).1.steps = m.steps := by
  have hx : ∀ (m : Mac) rd r, (setx m rd r).steps = m.steps := fun m rd r => by unfold setx; split <;> rfl
  unfold does
  repeat' split
  all_goals first | rfl | exact hx _ _ _
theorem does_err (m : Mac) (n wd : Nat) (h : (does m n wd).2 ≠ 0) : (does m n wd).1 = m := by
  revert h
  unfold does
  repeat' split
  all_goals first | (intro h; exact absurd rfl h) | (intro _; rfl)
theorem step_eq (h : ME W g m c d f t gm) {S : Nat → Prop} (hc : CodeAt W S c m.code) (hbc : isBytes m.code) (hcl : m.code.length ≤ 1000000000000000) (hl : m.tr.length ≤ 1000000000) (s0 : -9223372036854775808 ≤ m.steps) (s1 : m.steps < 9223372036854775807) :
    Calls Tryz.prog 25 #[.pointer (some ⟨g, 0, none⟩)] W fun e w' => e = .returned (.bool (stepM m).done) ∧ Lft W g gm (stepM m) c d f t w' := by
  by_cases hd : m.done = true
  · exact step_done h hd
  have hd : m.done = false := Bool.eq_false_iff.2 hd
  by_cases hb : m.pc = back
  · exact step_back h hd hb
  by_cases hf : m.fuel ≤ m.steps
  · exact step_fuel h hd hb hf
  obtain ⟨A, cc, hc1, hc2, hc3, _⟩ := hc
  have hU : U m.pc = ((m.pc.toNat : Nat) : Int) := rfl
  have hn : (U m.pc - 4194304).toNat = m.pc.toNat - 4194304 := by rw [hU]; omega
  by_cases hft : fetches m = true
  · unfold fetches at hft
    obtain ⟨k1, k2, k3⟩ := of_decide_eq_true hft
    have hft : fetches m = true := decide_eq_true ⟨k1, k2, k3⟩
    have FC := fun W' (hw : Below W.heap.size W W') => EFetch.fetch_ok g _ A m.code cc (U m.pc) W' (h.below hw).mb hc1 rfl (U_nonneg _) (U_lt _) hcl hc2 (Kd.C_below hc3 hw) hbc (by rw [hU]; omega) (by rw [hU]; omega) (by rw [hU]; omega)
    rw [hn] at FC
    have hw : (ld m.code (m.pc.toNat - 4194304) 4).toNat = word m := rfl
    rw [hw] at FC
    cases hdc : dec (word m) with
    | none =>
      have hs : stepM m = fin m 5 := by
        unfold stepM
        rw [if_neg (by rw [hd]; simp), if_neg hb, if_neg hf, if_neg (by rw [hft]; simp), hdc]
      rw [hs, show (fin m 5).done = true from rfl]
      have hv : decV (word m) = .tuple #[ins0, .int .i64 5] := by unfold decV; rw [hdc]
      rw [hv] at FC
      exact step_bad h hd hb hf 5 (by decide) FC
    | some n =>
      obtain ⟨n0, n1, _⟩ := dec_some hdc
      have hv : decV (word m) = .tuple #[insOf n (word m), .int .i64 0] := by unfold decV; rw [hdc]
      rw [hv] at FC
      have DC := fun W' (hw : Below W.heap.size W W') => do_eq (h.below hw) hl n (word m) n0 n1
      by_cases he : (does m n (word m)).2 = 0
      · have hs : stepM m = after (does m n (word m)).1 := by
          unfold stepM
          rw [if_neg (by rw [hd]; simp), if_neg hb, if_neg hf, if_neg (by rw [hft]; simp), hdc]
          simp only [he, if_true]
        rw [hs]
        rw [he] at DC
        have hst := does_steps m n (word m)
        exact step_runs h hd hb hf n (word m) _ (by rw [hst]; exact s0) (by rw [hst]; exact s1) FC DC
      · have hs : stepM m = fin m (does m n (word m)).2 := by
          unfold stepM
          rw [if_neg (by rw [hd]; simp), if_neg hb, if_neg hf, if_neg (by rw [hft]; simp), hdc]
          simp only [he, if_false]
        have hm := does_err m n (word m) he
        rw [hs, show (fin m (does m n (word m)).2).done = true from rfl]
        rw [hm] at DC
        exact step_fails h hd hb hf n (word m) _ he FC DC
  · have hft : fetches m = false := Bool.eq_false_iff.2 hft
    have hs : stepM m = fin m 4 := by
      unfold stepM
      rw [if_neg (by rw [hd]; simp), if_neg hb, if_neg hf, if_pos hft]
    rw [hs, show (fin m 4).done = true from rfl]
    unfold fetches at hft
    have hft := of_decide_eq_false hft
    exact step_bad h hd hb hf 4 (by decide) (fun W' hw => EFetch.fetch_bad g _ A m.code.length cc (U m.pc) W' (h.below hw).mb hc1 rfl (U_nonneg _) (U_lt _) hcl (fun hh => hft (by rw [hU] at hh; omega)))
end
end Go.Proofs.YtcgkgaibomcheaaGreat.EStep
end

section
namespace Go.Proofs.YtcgkgaibomcheaaGreat.RLoad
open Go.RowKit Bits Mb Reg Rd PRvemuRuns YtcgkgaibomcheaaGreatW.PrintWords YtcgkgaibomcheaaGreatW.PrintLast YtcgkgaibomcheaaGreatW.PrintMore
theorem wrapU' (z : Int) : IntKind.u64.wrap z = z % 18446744073709551616 := by
  simp only [IntKind.wrap, IntKind.bits, IntKind.signed, Bool.false_and, Bool.false_eq_true, if_false]
  omega
theorem within_eq (a n fr size : Int) (h0 : 0 ≤ a) (ha : a < 18446744073709551616) (hn1 : 1 ≤ n) (hn8 : n ≤ 8) (hf : 0 ≤ fr) (hs : 0 ≤ size) (hfs : fr + size ≤ 4294967296) : ravelinref16_within.f a n fr size = some (decide (fr ≤ a ∧ a + n ≤ fr + size)) := by
  unfold ravelinref16_within.f
  simp only [wrapU']
  by_cases h1 : a ≥ fr
  · rw [if_pos h1, show (a - fr) % 18446744073709551616 = a - fr by omega, show size % 18446744073709551616 = size by omega, show n % 18446744073709551616 = n by omega]
    by_cases h2 : a - fr ≤ size
    · rw [if_pos h2, show (size - (a - fr)) % 18446744073709551616 = size - (a - fr) by omega]
      congr 1
      rw [decide_eq_decide]
      omega
    · rw [if_neg h2, decide_eq_false (by omega)]
  · rw [if_neg h1, decide_eq_false (by omega)]
set_option maxRecDepth 20000 in
set_option maxHeartbeats 1000000 in
theorem none_ (g : Nat) (v : Nat → Value) (As : Option Addr) (L cs : Nat) (a : Int) (n : Nat) (w : World) (h : MB 76 41 w g v) (h2 : v 2 = .slice As L cs) (hL : L ≤ 1048576) (h0 : 0 ≤ a) (ha : a < 18446744073709551616) (hn1 : 1 ≤ n) (hn8 : n ≤ 8)
    (hd : ¬ inData a n) (hf : ¬ inFrame L a n) :
    Calls Tryz.prog 108 #[.pointer (some ⟨g, 0, none⟩), .int .u64 a, .int .i64 n] w fun e w' => e = .returned (.tuple #[.int .u64 0, .bool false]) ∧ Below w.heap.size w w' := by
  have c2 := (h.cell 2 (by omega)).trans (congrArg some h2)
  have w1 : IntKind.u64.wrap (L : Int) = (L : Int) := by rw [wrapU']; omega
  have w2 : IntKind.u64.wrap (2147418112 - (L : Int)) = 2147418112 - (L : Int) := by rw [wrapU']; omega
  have WD := Aside0.mk (within_eq a n 65536 64 h0 ha (by omega) (by omega) (by omega) (by omega) (by omega))
  have WF := Aside0.mk (within_eq a n (2147418112 - (L : Int)) L h0 ha (by omega) (by omega) (by omega) (by omega) (by omega))
  rw [decide_eq_false (by unfold inData at hd; omega)] at WD
  rw [decide_eq_false (by unfold inFrame at hf; omega)] at WF
  obtain ⟨B, hB⟩ : ∃ B : Int, 2147418112 - (L : Int) = B := ⟨_, rfl⟩
  rw [hB] at w2 WF
  have HM := Aside0.mk h
  have H2 := Aside0.mk h2
  clear h h2 hd hf
  go_enter Tryz.func108, Tryz.ntmps108
  go_wp2_with fail
  refine (ravelinref16_within.calls a n 65536 64 false _ WD.out).mono ?_
  rintro e w3 ⟨rfl, hd3⟩
  have HB3 := Aside0.mk hd3.below
  clear hd3 c2
  have c2 := ((HM.out.below HB3.out).cell 2 (by omega)).trans (congrArg some H2.out)
  go_wp2_with fail
  refine (ravelinref16_within.calls a n B L false _ WF.out).mono ?_
  rintro e w4 ⟨rfl, hd4⟩
  have HB4 := Aside0.mk (below_step HB3.out hd4.below)
  clear hd4 c2 HB3
  go_wp2
  go_ret2
  exact ⟨rfl, HB4.out⟩
theorem load_at {gb cb : Nat} {l : List Int} {n : Nat} {lo : Int} (hby : isBytes l) (hcb : l.length ≤ cb) (hl : l.length ≤ 1048576) (hn1 : 1 ≤ n) (hn8 : n ≤ 8) (h0 : 0 ≤ lo) (h1 : lo + n ≤ l.length) (W : World) (hW : Row gb l W) :
    Calls Tryz.prog 88 #[.slice (some ⟨gb, 0, none⟩) l.length cb, .int .i64 lo, .int .i64 n] W fun e w' => e = .returned (.tuple #[.int .u64 (U (ld l lo.toNat n)), .int .i64 0]) ∧ Drawn0 W w' := by
  have hr := hW.reads 0 l.length (by omega) (by omega)
  rw [List.drop_zero, List.take_length] at hr
  have h := ravelinref01_Load.calls 100 (some ⟨gb, 0, none⟩) cb l lo n _ 0 W hr hcb (F1.ref_Load_yes 100 (by omega) l (by omega) hby lo n ⟨by omega, by omega, h0, h1⟩)
  rw [Int.toNat_natCast] at h
  exact h
set_option maxRecDepth 20000 in
set_option maxHeartbeats 1000000 in
theorem data_ (b : Nat) (g : Nat) (v : Nat → Value) (vt : Value) (tr : List S54) (okt : Nat → Prop) (gb cb : Nat) (l : List Int) (a : Int) (n : Nat) (w : World) (h : MB 76 41 w g v) (ht : v 40 = vt) (hT : Kd.R k54 54 w b okt vt tr) (hfr : ∀ k, w.heap.size ≤ k → okt k)
    (hb0 : b ≤ w.heap.size) (hlen : tr.length ≤ 1000000000) (hrow : Row gb l w) (hby : isBytes l) (hcb : l.length ≤ cb) (hll : l.length ≤ 1048576) (hn1 : 1 ≤ n) (hn8 : n ≤ 8) (hgb : gb ≠ g) (h0 : 0 ≤ a) (ha : a < 18446744073709551616)
    (hrw : v 1 = .slice (some ⟨gb, 0, none⟩) l.length cb) (hin : inData a n) (h64 : l.length = 64) (As : Option Addr) (L cs : Nat) (h2 : v 2 = .slice As L cs) (hL : L ≤ 1048576) :
    Calls Tryz.prog 108 #[.pointer (some ⟨g, 0, none⟩), .int .u64 a, .int .i64 n] w fun e w' => e = .returned (.tuple #[.int .u64 (U (ld l (a - 65536).toNat n)), .bool true]) ∧ ∃ vt', MB 76 41 w' g (atTr v vt') ∧ Kd.R k54 54 w' b okt vt' (tr ++ [⟨false, a, n⟩]) ∧ Wr (fun k => k = g ∨ some k = vt.ownBlock) w w' := by
  have c2 := (h.cell 2 (by omega)).trans (congrArg some h2)
  have w1 : IntKind.u64.wrap (L : Int) = (L : Int) := by rw [wrapU']; omega
  have w2 : IntKind.u64.wrap (2147418112 - (L : Int)) = 2147418112 - (L : Int) := by rw [wrapU']; omega
  have w3' : IntKind.u64.wrap (a - 65536) = a - 65536 := by unfold inData at hin; rw [wrapU']; omega
  have w4' : wrap64 (a - 65536) = a - 65536 := by unfold inData at hin; unfold wrap64; omega
  have WD := Aside0.mk (within_eq a n 65536 64 h0 ha (by omega) (by omega) (by omega) (by omega) (by omega))
  have WF := Aside0.mk (within_eq a n (2147418112 - (L : Int)) L h0 ha (by omega) (by omega) (by omega) (by omega) (by omega))
  rw [decide_eq_true (by unfold inData at hin; omega)] at WD
  obtain ⟨fB, hfB⟩ : ∃ fB, decide (2147418112 - (L : Int) ≤ a ∧ a + n ≤ 2147418112 - (L : Int) + L) = fB := ⟨_, rfl⟩
  rw [hfB] at WF
  have LC := Aside0.mk (fun W hW => load_at (gb := gb) (cb := cb) (n := n) (lo := a - 65536) hby hcb hll hn1 hn8 (by unfold inData at hin; omega) (by unfold inData at hin; omega) W hW)
  rw [h64] at LC hrw
  clear hfB
  obtain ⟨B, hB⟩ : ∃ B : Int, 2147418112 - (L : Int) = B := ⟨_, rfl⟩
  rw [hB] at w2 WF 
  obtain ⟨I, hI⟩ : ∃ I : Int, a - 65536 = I := ⟨_, rfl⟩
  rw [hI] at w3' w4' LC ⊢
  have HM0 := Aside0.mk h
  have H2 := Aside0.mk h2
  have HRW := Aside0.mk hrw
  have HT0 := Aside0.mk hT
  have HR0 := Aside0.mk hrow
  have HTT := Aside0.mk ht
  have hqq := hfr
  clear h h2 hrw hT hrow ht hin h64 hfr
  go_enter Tryz.func108, Tryz.ntmps108
  go_wp2_with fail
  refine (ravelinref16_within.calls a n 65536 64 true _ WD.out).mono ?_
  rintro e w3 ⟨rfl, hd3⟩
  have HB3 := Aside0.mk hd3.below
  clear hd3 c2
  have c2 := ((HM0.out.below HB3.out).cell 2 (by omega)).trans (congrArg some H2.out)
  go_wp2_with fail
  refine (ravelinref16_within.calls a n B L fB _ WF.out).mono ?_
  rintro e w4 ⟨rfl, hd4⟩
  have HB4 := Aside0.mk (below_step HB3.out hd4.below)
  clear hd4 c2 HB3
  have HM := Aside0.mk (HM0.out.below HB4.out)
  have HT := Aside0.mk (Kd.R_below HT0.out HB4.out)
  have HR := Aside0.mk (HR0.out.below HB4.out)
  have HFR := Aside0.mk (show ∀ k, w4.heap.size ≤ k → okt k from fun k hk => hqq k (Nat.le_trans HB4.out.size hk))
  have hb : b ≤ w4.heap.size := Nat.le_trans hb0 HB4.out.size
  have c40 := (HM.out.cell 40 (by omega)).trans (congrArg some HTT.out)
  clear HM0 HT0 HR0 hqq
  go_wp2_with (first | ((with_reducible refine gate_dst (N := 48) rfl ?_); refine Kd.R_lit k54 (w0 := w4) w4.heap.size 54 ?hg (N := 48) ?hd (xs := [(⟨false, a, n⟩ : S54)]) (inner := [.bool false, .int .u64 a, .int .i64 n]) (ok := fun _ => True) (okp := fun _ => True) ?hr ?hp (fun _ hk => hk) trivial (Below.refl _ _) (Nat.le_refl _) (by simp) ?_; (case hd => rfl); (case hg => rfl); (case hr => first | (go_simp; done) | (go_simp; rfl)); (case hp => exact ev_reps _ _ _ _); intro v26 w26 ho26 hb26 hgx_ hnx_; clear hgx_ hnx_) | ((with_reducible refine gate_builtin (b := .append) (xs := #[.tmp 44, .tmp 48]) rfl ?_); at_builtin; obtain ⟨A26, c26, rfl, hc26, hC26⟩ := Kd.R_reads ho26; refine Kd.R_append_rows k54 (Rr := k54.K w26) (w0 := w4) b rfl (.tmp 44) (.tmp 48) 29 54 (.agg #[.bool false, .int .u64 0, .int .i64 0]) 24 rfl Tryz.underlying29 info54 rfl (by decide) (by omega) vt tr [(⟨false, a, n⟩ : S54)] _ _ _ okt (fun _ => False) rfl rfl ?aO ?aR ?aK (fun _ h => h.elim) ?aF ?aB ?aS ?aL ?_; (case aO => exact Kd.R_below HT.out hb26); (case aR => exact hC26); (case aK => exact fun x cs h => by rw [k54_open h]; exact k54_mkM _ _ _ x); (case aF => exact fun k hk => HFR.out k (Nat.le_trans hb26.size hk)); (case aB => exact hb26.mono hb); (case aS => exact Nat.le_trans hb hb26.size); (case aL => simp only [List.length_cons, List.length_nil]; omega); intro v27 w27 ho27 hb27 hg27 hat27; obtain ⟨A27, c27, rfl, hc27, hC27⟩ := Kd.R_reads ho27; have M27 : MB 76 41 w27 g v := (by (obtain ⟨cs, q1, q2⟩ := HM.out.below hb26; exact ⟨cs, blk_grown q1 hg27 (Kd.R_ne (Kd.R_below HT.out hb26) q1 (by decide)), q2⟩)); have R27 : Row gb l w27 := (by (obtain ⟨cs, q1, q2⟩ := HR.out.below hb26; exact ⟨cs, blk_grown q1 hg27 (Kd.R_ne (Kd.R_below HT.out hb26) q1 (by decide)), q2⟩)); have x40 := M27.cell 40 (by omega); have f40 := M27.frozen 40; have xx := (M27.cell 1 (by omega)).trans (congrArg some HRW.out); have HM27 := Aside0.mk M27; have HR27 := Aside0.mk R27; have HO27 := Aside0.mk ho27; have HB27 := Aside0.mk hb27; have HG27 := Aside0.mk hg27; have HB26 := Aside0.mk hb26; clear M27 R27 ho27 hb27 hg27 hat27 hc27 hC27 hC26 hc26 ho26 hb26))
  have el : (tr ++ [(⟨false, a, n⟩ : S54)]).length = tr.length + 1 := by rw [List.length_append]; rfl
  rw [el] at HO27
  have HM28 := Aside0.mk (HM27.out.put 40 (.slice A27 (tr.length + 1) c27) (atTr v (.slice A27 (tr.length + 1) c27)) rfl (fun i _ hi => if_neg hi))
  have HR28 := Aside0.mk (HR27.out.of (Below.heap_setCell w27 ⟨g, 40, none⟩ (.slice A27 (tr.length + 1) c27) gb hgb))
  have HO28 := Aside0.mk (show Kd.R k54 54 (w27.setCell ⟨g, 40, none⟩ (.slice A27 (tr.length + 1) c27)) b okt (.slice A27 (tr.length + 1) c27) (tr ++ [⟨false, a, n⟩]) from by
    obtain ⟨cs, q1, _⟩ := HM27.out
    exact Kd.R_set HO27.out q1 (by decide) 40 _)
  have HW28 := Aside0.mk (show Wr (fun k => k = g ∨ some k = vt.ownBlock) w (w27.setCell ⟨g, 40, none⟩ (.slice A27 (tr.length + 1) c27)) from by
    refine Wr.set (p := ⟨g, 40, none⟩) ?_ (.inl (.inl rfl)) _
    refine ⟨Kept.of_grown HG27.out (Kept.of_below (below_step HB4.out HB26.out) _) (fun k hk => .inl (.inr hk.symm)), HB27.out.os.trans HB4.out.os, HB27.out.tape.trans HB4.out.tape, HB27.out.output.trans HB4.out.output⟩)
  clear HM27 HR27 HO27 HG27 HB27 HB26 x40 f40 xx el HR HM HT HFR c40
  refine (LC.out _ HR28.out).mono ?_
  rintro e w29 ⟨rfl, hd⟩
  have hb29 := hd.below
  have HM29 := Aside0.mk (HM28.out.below hb29)
  have HO29 := Aside0.mk (Kd.R_below HO28.out hb29)
  have HW29 := Aside0.mk (HW28.out.below hb29)
  clear HM28 HO28 HW28 HR28 LC hd hb29
  go_wp2
  go_ret2
  exact ⟨rfl, _, HM29.out, HO29.out, HW29.out⟩
set_option maxRecDepth 20000 in
set_option maxHeartbeats 1000000 in
theorem stack_ (b : Nat) (g : Nat) (v : Nat → Value) (vt : Value) (tr : List S54) (okt : Nat → Prop) (gb cb : Nat) (l : List Int) (a : Int) (n : Nat) (w : World) (h : MB 76 41 w g v) (ht : v 40 = vt) (hT : Kd.R k54 54 w b okt vt tr) (hfr : ∀ k, w.heap.size ≤ k → okt k)
    (hb0 : b ≤ w.heap.size) (hlen : tr.length ≤ 1000000000) (hrow : Row gb l w) (hby : isBytes l) (hcb : l.length ≤ cb) (hll : l.length ≤ 1048576) (hn1 : 1 ≤ n) (hn8 : n ≤ 8) (hgb : gb ≠ g) (h0 : 0 ≤ a) (ha : a < 18446744073709551616)
    (hrw : v 2 = .slice (some ⟨gb, 0, none⟩) l.length cb) (hnd : ¬ inData a n) (hin : inFrame l.length a n) :
    Calls Tryz.prog 108 #[.pointer (some ⟨g, 0, none⟩), .int .u64 a, .int .i64 n] w fun e w' => e = .returned (.tuple #[.int .u64 (U (ld l (a - (2147418112 - (l.length : Int))).toNat n)), .bool true]) ∧ ∃ vt', MB 76 41 w' g (atTr v vt') ∧ Kd.R k54 54 w' b okt vt' (tr ++ [⟨false, a, n⟩]) ∧ Wr (fun k => k = g ∨ some k = vt.ownBlock) w w' := by
  have c2 := (h.cell 2 (by omega)).trans (congrArg some hrw)
  have w1 : IntKind.u64.wrap (l.length : Int) = (l.length : Int) := by rw [wrapU']; omega
  have w2 : IntKind.u64.wrap (2147418112 - (l.length : Int)) = 2147418112 - (l.length : Int) := by rw [wrapU']; omega
  have w3' : IntKind.u64.wrap (a - (2147418112 - (l.length : Int))) = a - (2147418112 - (l.length : Int)) := by unfold inFrame at hin; rw [wrapU']; omega
  have w4' : wrap64 (a - (2147418112 - (l.length : Int))) = a - (2147418112 - (l.length : Int)) := by unfold inFrame at hin; unfold wrap64; omega
  have WD := Aside0.mk (within_eq a n 65536 64 h0 ha (by omega) (by omega) (by omega) (by omega) (by omega))
  have WF := Aside0.mk (within_eq a n (2147418112 - (l.length : Int)) l.length h0 ha (by omega) (by omega) (by omega) (by omega) (by omega))
  rw [decide_eq_false (by unfold inData at hnd; omega)] at WD
  skip
  rw [decide_eq_true (by unfold inFrame at hin; omega)] at WF
  have LC := Aside0.mk (fun W hW => load_at (gb := gb) (cb := cb) (n := n) (lo := a - (2147418112 - (l.length : Int))) hby hcb hll hn1 hn8 (by unfold inFrame at hin; omega) (by unfold inFrame at hin; omega) W hW)
  skip
  skip
  obtain ⟨B, hB⟩ : ∃ B : Int, 2147418112 - (l.length : Int) = B := ⟨_, rfl⟩
  rw [hB] at w2 WF w3' w4' LC ⊢
  obtain ⟨I, hI⟩ : ∃ I : Int, a - B = I := ⟨_, rfl⟩
  rw [hI] at w3' w4' LC ⊢
  have HM0 := Aside0.mk h
  have H2 := Aside0.mk hrw
  have HRW := Aside0.mk hrw
  have HT0 := Aside0.mk hT
  have HR0 := Aside0.mk hrow
  have HTT := Aside0.mk ht
  have hqq := hfr
  clear h  hrw hT hrow ht hin hnd hfr
  go_enter Tryz.func108, Tryz.ntmps108
  go_wp2_with fail
  refine (ravelinref16_within.calls a n 65536 64 false _ WD.out).mono ?_
  rintro e w3 ⟨rfl, hd3⟩
  have HB3 := Aside0.mk hd3.below
  clear hd3 c2
  have c2 := ((HM0.out.below HB3.out).cell 2 (by omega)).trans (congrArg some H2.out)
  go_wp2_with fail
  refine (ravelinref16_within.calls a n B l.length true _ WF.out).mono ?_
  rintro e w4 ⟨rfl, hd4⟩
  have HB4 := Aside0.mk (below_step HB3.out hd4.below)
  clear hd4 c2 HB3
  have HM := Aside0.mk (HM0.out.below HB4.out)
  have HT := Aside0.mk (Kd.R_below HT0.out HB4.out)
  have HR := Aside0.mk (HR0.out.below HB4.out)
  have HFR := Aside0.mk (show ∀ k, w4.heap.size ≤ k → okt k from fun k hk => hqq k (Nat.le_trans HB4.out.size hk))
  have hb : b ≤ w4.heap.size := Nat.le_trans hb0 HB4.out.size
  have c40 := (HM.out.cell 40 (by omega)).trans (congrArg some HTT.out)
  clear HM0 HT0 HR0 hqq
  go_wp2_with (first | ((with_reducible refine gate_dst (N := 48) rfl ?_); refine Kd.R_lit k54 (w0 := w4) w4.heap.size 54 ?hg (N := 48) ?hd (xs := [(⟨false, a, n⟩ : S54)]) (inner := [.bool false, .int .u64 a, .int .i64 n]) (ok := fun _ => True) (okp := fun _ => True) ?hr ?hp (fun _ hk => hk) trivial (Below.refl _ _) (Nat.le_refl _) (by simp) ?_; (case hd => rfl); (case hg => rfl); (case hr => first | (go_simp; done) | (go_simp; rfl)); (case hp => exact ev_reps _ _ _ _); intro v26 w26 ho26 hb26 hgx_ hnx_; clear hgx_ hnx_) | ((with_reducible refine gate_builtin (b := .append) (xs := #[.tmp 44, .tmp 48]) rfl ?_); at_builtin; obtain ⟨A26, c26, rfl, hc26, hC26⟩ := Kd.R_reads ho26; refine Kd.R_append_rows k54 (Rr := k54.K w26) (w0 := w4) b rfl (.tmp 44) (.tmp 48) 29 54 (.agg #[.bool false, .int .u64 0, .int .i64 0]) 24 rfl Tryz.underlying29 info54 rfl (by decide) (by omega) vt tr [(⟨false, a, n⟩ : S54)] _ _ _ okt (fun _ => False) rfl rfl ?aO ?aR ?aK (fun _ h => h.elim) ?aF ?aB ?aS ?aL ?_; (case aO => exact Kd.R_below HT.out hb26); (case aR => exact hC26); (case aK => exact fun x cs h => by rw [k54_open h]; exact k54_mkM _ _ _ x); (case aF => exact fun k hk => HFR.out k (Nat.le_trans hb26.size hk)); (case aB => exact hb26.mono hb); (case aS => exact Nat.le_trans hb hb26.size); (case aL => simp only [List.length_cons, List.length_nil]; omega); intro v27 w27 ho27 hb27 hg27 hat27; obtain ⟨A27, c27, rfl, hc27, hC27⟩ := Kd.R_reads ho27; have M27 : MB 76 41 w27 g v := (by (obtain ⟨cs, q1, q2⟩ := HM.out.below hb26; exact ⟨cs, blk_grown q1 hg27 (Kd.R_ne (Kd.R_below HT.out hb26) q1 (by decide)), q2⟩)); have R27 : Row gb l w27 := (by (obtain ⟨cs, q1, q2⟩ := HR.out.below hb26; exact ⟨cs, blk_grown q1 hg27 (Kd.R_ne (Kd.R_below HT.out hb26) q1 (by decide)), q2⟩)); have x40 := M27.cell 40 (by omega); have f40 := M27.frozen 40; have xx := (M27.cell 2 (by omega)).trans (congrArg some HRW.out); have HM27 := Aside0.mk M27; have HR27 := Aside0.mk R27; have HO27 := Aside0.mk ho27; have HB27 := Aside0.mk hb27; have HG27 := Aside0.mk hg27; have HB26 := Aside0.mk hb26; clear M27 R27 ho27 hb27 hg27 hat27 hc27 hC27 hC26 hc26 ho26 hb26))
  have el : (tr ++ [(⟨false, a, n⟩ : S54)]).length = tr.length + 1 := by rw [List.length_append]; rfl
  rw [el] at HO27
  have HM28 := Aside0.mk (HM27.out.put 40 (.slice A27 (tr.length + 1) c27) (atTr v (.slice A27 (tr.length + 1) c27)) rfl (fun i _ hi => if_neg hi))
  have HR28 := Aside0.mk (HR27.out.of (Below.heap_setCell w27 ⟨g, 40, none⟩ (.slice A27 (tr.length + 1) c27) gb hgb))
  have HO28 := Aside0.mk (show Kd.R k54 54 (w27.setCell ⟨g, 40, none⟩ (.slice A27 (tr.length + 1) c27)) b okt (.slice A27 (tr.length + 1) c27) (tr ++ [⟨false, a, n⟩]) from by
    obtain ⟨cs, q1, _⟩ := HM27.out
    exact Kd.R_set HO27.out q1 (by decide) 40 _)
  have HW28 := Aside0.mk (show Wr (fun k => k = g ∨ some k = vt.ownBlock) w (w27.setCell ⟨g, 40, none⟩ (.slice A27 (tr.length + 1) c27)) from by
    refine Wr.set (p := ⟨g, 40, none⟩) ?_ (.inl (.inl rfl)) _
    refine ⟨Kept.of_grown HG27.out (Kept.of_below (below_step HB4.out HB26.out) _) (fun k hk => .inl (.inr hk.symm)), HB27.out.os.trans HB4.out.os, HB27.out.tape.trans HB4.out.tape, HB27.out.output.trans HB4.out.output⟩)
  clear HM27 HR27 HO27 HG27 HB27 HB26 x40 f40 xx el HR HM HT HFR c40
  refine (LC.out _ HR28.out).mono ?_
  rintro e w29 ⟨rfl, hd⟩
  have hb29 := hd.below
  have HM29 := Aside0.mk (HM28.out.below hb29)
  have HO29 := Aside0.mk (Kd.R_below HO28.out hb29)
  have HW29 := Aside0.mk (HW28.out.below hb29)
  clear HM28 HO28 HW28 HR28 LC hd hb29
  go_wp2
  go_ret2
  exact ⟨rfl, _, HM29.out, HO29.out, HW29.out⟩
end Go.Proofs.YtcgkgaibomcheaaGreat.RLoad
end

section
namespace Go.Proofs.YtcgkgaibomcheaaGreat.RStore
open Go.RowKit Bits Mb Reg Rd RLoad PRvemuRuns YtcgkgaibomcheaaGreatW.PrintWords YtcgkgaibomcheaaGreatW.PrintLast YtcgkgaibomcheaaGreatW.PrintMore
def atSt (v : Nat → Value) (s : Value) : Nat → Value := fun i => if i = 2 then s else v i
theorem store_at {gb cb : Nat} {l : List Int} {n : Nat} {lo : Int} (x : BitVec 64) (hby : isBytes l) (hcb : l.length ≤ cb) (hl : l.length ≤ 1048576) (hn1 : 1 ≤ n) (hn8 : n ≤ 8) (h0 : 0 ≤ lo) (h1 : lo + n ≤ l.length) (W : World) (hW : Row gb l W) :
    Calls Tryz.prog 107 #[.slice (some ⟨gb, 0, none⟩) l.length cb, .int .i64 lo, .int .i64 n, .int .u64 (U x)] W fun e w' => ∃ v0, e = .returned (.tuple #[v0, .int .i64 0]) ∧ Kd.R (Kd.int .u8) 5 w' W.heap.size (fun _ => True) v0 (st l lo.toNat x n) ∧ Below W.heap.size W w' := by
  have hr := hW.reads 0 l.length (by omega) (by omega)
  rw [List.drop_zero, List.take_length] at hr
  have h := ravelinref01_Store.calls 100 (some ⟨gb, 0, none⟩) cb l lo n (U x) _ 0 W hr hcb (F1.ref_Store_yes 100 (by omega) l (by omega) (by omega) lo n x ⟨by omega, by omega, h0, h1⟩)
  rw [Int.toNat_natCast] at h
  exact h
set_option maxRecDepth 20000 in
theorem none_ (g : Nat) (v : Nat → Value) (As : Option Addr) (L cs : Nat) (a : Int) (n : Nat) (x : BitVec 64) (w : World) (h : MB 76 41 w g v) (h2 : v 2 = .slice As L cs) (hL : L ≤ 1048576) (h0 : 0 ≤ a) (ha : a < 18446744073709551616) (hn1 : 1 ≤ n) (hn8 : n ≤ 8) (hf : ¬ inFrame L a n) :
    Calls Tryz.prog 92 #[.pointer (some ⟨g, 0, none⟩), .int .u64 a, .int .i64 n, .int .u64 (U x)] w fun e w' => e = .returned (.bool false) ∧ Below w.heap.size w w' := by
  have c2 := (h.cell 2 (by omega)).trans (congrArg some h2)
  have w1 : IntKind.u64.wrap (L : Int) = (L : Int) := by rw [wrapU']; omega
  have w2 : IntKind.u64.wrap (2147418112 - (L : Int)) = 2147418112 - (L : Int) := by rw [wrapU']; omega
  have WF := Aside0.mk (within_eq a n (2147418112 - (L : Int)) L h0 ha (by omega) (by omega) (by omega) (by omega) (by omega))
  rw [decide_eq_false (by unfold inFrame at hf; omega)] at WF
  obtain ⟨B, hB⟩ : ∃ B : Int, 2147418112 - (L : Int) = B := ⟨_, rfl⟩
  rw [hB] at w2 WF
  clear h h2 hf
  go_enter Tryz.func92, Tryz.ntmps92
  go_wp2_with fail
  refine (ravelinref16_within.calls a n B L false _ WF.out).mono ?_
  rintro e w4 ⟨rfl, hd4⟩
  have HB4 := Aside0.mk hd4.below
  clear hd4 c2
  go_wp2
  go_ret
  exact ⟨rfl, HB4.out⟩
set_option maxRecDepth 20000 in
set_option maxHeartbeats 1000000 in
theorem store_ (b : Nat) (g : Nat) (v : Nat → Value) (vt : Value) (tr : List S54) (okt : Nat → Prop) (gb cb : Nat) (l : List Int) (a : Int) (n : Nat) (x : BitVec 64) (w : World) (h : MB 76 41 w g v) (ht : v 40 = vt) (hT : Kd.R k54 54 w b okt vt tr) (hfr : ∀ k, w.heap.size ≤ k → okt k)
    (hb0 : b ≤ w.heap.size) (hlen : tr.length ≤ 1000000000) (hrow : Row gb l w) (hby : isBytes l) (hcb : l.length ≤ cb) (hll : l.length ≤ 1048576) (hn1 : 1 ≤ n) (hn8 : n ≤ 8) (hgb : gb ≠ g) (h0 : 0 ≤ a) (ha : a < 18446744073709551616)
    (hrw : v 2 = .slice (some ⟨gb, 0, none⟩) l.length cb) (hin : inFrame l.length a n) :
    Calls Tryz.prog 92 #[.pointer (some ⟨g, 0, none⟩), .int .u64 a, .int .i64 n, .int .u64 (U x)] w fun e w' => e = .returned (.bool true) ∧ ∃ vt' gb' cb', MB 76 41 w' g (atSt (atTr v vt') (.slice (some ⟨gb', 0, none⟩) l.length cb')) ∧ Kd.R k54 54 w' b okt vt' (tr ++ [⟨true, a, n⟩]) ∧ Row gb' (st l (a - (2147418112 - (l.length : Int))).toNat x n) w' ∧ l.length ≤ cb' ∧ w.heap.size ≤ gb' ∧ Wr (fun k => k = g ∨ some k = vt.ownBlock) w w' := by
  have c2 := (h.cell 2 (by omega)).trans (congrArg some hrw)
  have w1 : IntKind.u64.wrap (l.length : Int) = (l.length : Int) := by rw [wrapU']; omega
  have w2 : IntKind.u64.wrap (2147418112 - (l.length : Int)) = 2147418112 - (l.length : Int) := by rw [wrapU']; omega
  have w3' : IntKind.u64.wrap (a - (2147418112 - (l.length : Int))) = a - (2147418112 - (l.length : Int)) := by unfold inFrame at hin; rw [wrapU']; omega
  have w4' : wrap64 (a - (2147418112 - (l.length : Int))) = a - (2147418112 - (l.length : Int)) := by unfold inFrame at hin; unfold wrap64; omega
  have WF := Aside0.mk (within_eq a n (2147418112 - (l.length : Int)) l.length h0 ha (by omega) (by omega) (by omega) (by omega) (by omega))
  skip
  rw [decide_eq_true (by unfold inFrame at hin; omega)] at WF
  have hpos : 0 < l.length := by unfold inFrame at hin; omega
  have LC := Aside0.mk (fun W hW => store_at (gb := gb) (cb := cb) (n := n) (lo := a - (2147418112 - (l.length : Int))) x hby hcb hll hn1 hn8 (by unfold inFrame at hin; omega) (by unfold inFrame at hin; omega) W hW)
  skip
  skip
  obtain ⟨B, hB⟩ : ∃ B : Int, 2147418112 - (l.length : Int) = B := ⟨_, rfl⟩
  rw [hB] at w2 WF w3' w4' LC ⊢
  obtain ⟨I, hI⟩ : ∃ I : Int, a - B = I := ⟨_, rfl⟩
  rw [hI] at w3' w4' LC ⊢
  have HM0 := Aside0.mk h
  have H2 := Aside0.mk hrw
  have HRW := Aside0.mk hrw
  have HT0 := Aside0.mk hT
  have HR0 := Aside0.mk hrow
  have HTT := Aside0.mk ht
  have hqq := hfr
  clear h  hrw hT hrow ht hin hfr
  go_enter Tryz.func92, Tryz.ntmps92
  go_wp2_with fail
  refine (ravelinref16_within.calls a n B l.length true _ WF.out).mono ?_
  rintro e w4 ⟨rfl, hd4⟩
  have HB4 := Aside0.mk hd4.below
  clear hd4 c2
  have HM := Aside0.mk (HM0.out.below HB4.out)
  have HT := Aside0.mk (Kd.R_below HT0.out HB4.out)
  have HR := Aside0.mk (HR0.out.below HB4.out)
  have HFR := Aside0.mk (show ∀ k, w4.heap.size ≤ k → okt k from fun k hk => hqq k (Nat.le_trans HB4.out.size hk))
  have hb : b ≤ w4.heap.size := Nat.le_trans hb0 HB4.out.size
  have c40 := (HM.out.cell 40 (by omega)).trans (congrArg some HTT.out)
  clear HM0 HT0 HR0 hqq
  go_wp2_with (first | ((with_reducible refine gate_dst (N := 37) rfl ?_); refine Kd.R_lit k54 (w0 := w4) w4.heap.size 54 ?hg (N := 37) ?hd (xs := [(⟨true, a, n⟩ : S54)]) (inner := [.bool true, .int .u64 a, .int .i64 n]) (ok := fun _ => True) (okp := fun _ => True) ?hr ?hp (fun _ hk => hk) trivial (Below.refl _ _) (Nat.le_refl _) (by simp) ?_; (case hd => rfl); (case hg => rfl); (case hr => first | (go_simp; done) | (go_simp; rfl)); (case hp => exact ev_reps _ _ _ _); intro v26 w26 ho26 hb26 hgx_ hnx_; clear hgx_ hnx_) | ((with_reducible refine gate_builtin (b := .append) (xs := #[.tmp 33, .tmp 37]) rfl ?_); at_builtin; obtain ⟨A26, c26, rfl, hc26, hC26⟩ := Kd.R_reads ho26; refine Kd.R_append_rows k54 (Rr := k54.K w26) (w0 := w4) b rfl (.tmp 33) (.tmp 37) 29 54 (.agg #[.bool false, .int .u64 0, .int .i64 0]) 24 rfl Tryz.underlying29 info54 rfl (by decide) (by omega) vt tr [(⟨true, a, n⟩ : S54)] _ _ _ okt (fun _ => False) rfl rfl ?aO ?aR ?aK (fun _ h => h.elim) ?aF ?aB ?aS ?aL ?_; (case aO => exact Kd.R_below HT.out hb26); (case aR => exact hC26); (case aK => exact fun x cs h => by rw [k54_open h]; exact k54_mkM _ _ _ x); (case aF => exact fun k hk => HFR.out k (Nat.le_trans hb26.size hk)); (case aB => exact hb26.mono hb); (case aS => exact Nat.le_trans hb hb26.size); (case aL => simp only [List.length_cons, List.length_nil]; omega); intro v27 w27 ho27 hb27 hg27 hat27; obtain ⟨A27, c27, rfl, hc27, hC27⟩ := Kd.R_reads ho27; have M27 : MB 76 41 w27 g v := (by (obtain ⟨cs, q1, q2⟩ := HM.out.below hb26; exact ⟨cs, blk_grown q1 hg27 (Kd.R_ne (Kd.R_below HT.out hb26) q1 (by decide)), q2⟩)); have R27 : Row gb l w27 := (by (obtain ⟨cs, q1, q2⟩ := HR.out.below hb26; exact ⟨cs, blk_grown q1 hg27 (Kd.R_ne (Kd.R_below HT.out hb26) q1 (by decide)), q2⟩)); have x40 := M27.cell 40 (by omega); have f40 := M27.frozen 40; have xx := (M27.cell 2 (by omega)).trans (congrArg some HRW.out); have HM27 := Aside0.mk M27; have HR27 := Aside0.mk R27; have HO27 := Aside0.mk ho27; have HB27 := Aside0.mk hb27; have HG27 := Aside0.mk hg27; have HB26 := Aside0.mk hb26; clear M27 R27 ho27 hb27 hg27 hat27 hc27 hC27 hC26 hc26 ho26 hb26))
  have el : (tr ++ [(⟨true, a, n⟩ : S54)]).length = tr.length + 1 := by rw [List.length_append]; rfl
  rw [el] at HO27
  have HM28 := Aside0.mk (HM27.out.put 40 (.slice A27 (tr.length + 1) c27) (atTr v (.slice A27 (tr.length + 1) c27)) rfl (fun i _ hi => if_neg hi))
  have HR28 := Aside0.mk (HR27.out.of (Below.heap_setCell w27 ⟨g, 40, none⟩ (.slice A27 (tr.length + 1) c27) gb hgb))
  have HO28 := Aside0.mk (show Kd.R k54 54 (w27.setCell ⟨g, 40, none⟩ (.slice A27 (tr.length + 1) c27)) b okt (.slice A27 (tr.length + 1) c27) (tr ++ [⟨true, a, n⟩]) from by
    obtain ⟨cs, q1, _⟩ := HM27.out
    exact Kd.R_set HO27.out q1 (by decide) 40 _)
  have HW28 := Aside0.mk (show Wr (fun k => k = g ∨ some k = vt.ownBlock) w (w27.setCell ⟨g, 40, none⟩ (.slice A27 (tr.length + 1) c27)) from by
    refine Wr.set (p := ⟨g, 40, none⟩) ?_ (.inl (.inl rfl)) _
    refine ⟨Kept.of_grown HG27.out (Kept.of_below (below_step HB4.out HB26.out) _) (fun k hk => .inl (.inr hk.symm)), HB27.out.os.trans HB4.out.os, HB27.out.tape.trans HB4.out.tape, HB27.out.output.trans HB4.out.output⟩)
  clear HM27 HR27 HO27 HG27 HB27 HB26 x40 f40 xx el HR HM HT HFR c40
  refine (LC.out _ HR28.out).mono ?_
  rintro e w29 ⟨v0, rfl, hr29, hb29⟩
  obtain ⟨gn, cn, csn, rfl, hg0, hcn, _, hsz, hgn, hcs⟩ := Args.own_open hr29 (by rw [st_length]; exact hpos)
  rw [st_length] at hcn hcs
  have HM29 := Aside0.mk (HM28.out.below hb29)
  have HO29 := Aside0.mk (Kd.R_below HO28.out hb29)
  have HW29 := Aside0.mk (HW28.out.below hb29)
  have hng : gn ≠ g := fun e => by have h1 := HM28.out.lt; rw [e] at hg0; omega
  have c2 := HM29.out.cell 2 (by omega)
  have f2 := HM29.out.frozen 2
  have HM30 := Aside0.mk (HM29.out.put 2 (.slice (some ⟨gn, 0, none⟩) l.length cn) (atSt (atTr v (.slice A27 (tr.length + 1) c27)) (.slice (some ⟨gn, 0, none⟩) l.length cn)) rfl (fun i _ hi => if_neg hi))
  have HO30 := Aside0.mk (show Kd.R k54 54 (w29.setCell ⟨g, 2, none⟩ (.slice (some ⟨gn, 0, none⟩) l.length cn)) b okt (.slice A27 (tr.length + 1) c27) (tr ++ [⟨true, a, n⟩]) from by
    obtain ⟨cs, q1, _⟩ := HM29.out
    exact Kd.R_set HO29.out q1 (by decide) 2 _)
  have HR30 := Aside0.mk (show Row gn (st l I.toNat x n) (w29.setCell ⟨g, 2, none⟩ (.slice (some ⟨gn, 0, none⟩) l.length cn)) from
    Row.of (W := w29) ⟨csn, hgn, by rw [st_length]; omega, fun j hj => hcs j (by rw [st_length] at hj; exact hj)⟩ (Below.heap_setCell w29 ⟨g, 2, none⟩ _ gn hng))
  have HW30 := Aside0.mk (HW29.out.set (p := ⟨g, 2, none⟩) (.inl (.inl rfl)) (.slice (some ⟨gn, 0, none⟩) l.length cn))
  have HG := Aside0.mk (show w.heap.size ≤ gn from Nat.le_trans HW28.out.1.1 hg0)
  have HCN := Aside0.mk hcn
  have sl := st_length l I.toNat x n
  clear HM28 HO28 HW28 HR28 LC hb29 hr29 hgn hcs hg0 hsz HM29 HO29 HW29 hcn
  go_wp2
  go_ret
  exact ⟨rfl, _, gn, cn, HM30.out, HO30.out, HR30.out, HCN.out, HG.out, HW30.out⟩
end Go.Proofs.YtcgkgaibomcheaaGreat.RStore
end

section
namespace Go.Proofs.YtcgkgaibomcheaaGreat.RM
open Go.RowKit Bits Dec Mac Mb Rd RDec EM PRvemuRuns YtcgkgaibomcheaaGreatW.PrintWords YtcgkgaibomcheaaGreatW.PrintLast YtcgkgaibomcheaaGreatW.PrintMore
def ownR (g : Nat) (t : Value) (k : Nat) : Prop := k = g ∨ some k = t.ownBlock
structure MR (W : World) (g : Nat) (m : Mac) (c d f t : Value) : Prop where
  mb : MB 76 41 W g (vals m c d f t undef)
  tr : TrAt W t m.tr
  data : ∃ gd cd, d = .slice (some ⟨gd, 0, none⟩) 64 cd ∧ 64 ≤ cd ∧ Row gd m.data W
  frame : SlAt W f m.frame
  fty : ∀ k, some k = f.ownBlock → ∃ cs, W.heap[k]? = some (.cells cs 5 (0, 0))
  d64 : m.data.length = 64
  fl : m.frame.length ≤ 1048576
  bd : isBytes m.data
  bf : isBytes m.frame
section
variable {W W' : World} {g : Nat} {m : Mac} {c d f t : Value}
theorem MR.g_t (h : MR W g m c d f t) : some g ≠ t.ownBlock := fun e => ty_ne (mbt h.mb) (h.tr.typed g e) (by decide) rfl
theorem MR.kept {T : Nat → Prop} (h : MR W g m c d f t) (hk : Kept W W' T) (hT : ∀ k, k < W.heap.size → T k → ¬ ownR g t k ∧ some k ≠ d.ownBlock ∧ some k ≠ f.ownBlock) : MR W' g m c d f t where
  mb := h.mb.of (hk.2 g h.mb.lt (fun e => (hT g h.mb.lt e).1 (.inl rfl)))
  tr := h.tr.kept hk (fun k e hh => (hT k (h.tr.lt k e) hh).1 (.inr e))
  data := by
    obtain ⟨gd, cd, h1, h2, h3⟩ := h.data
    exact ⟨gd, cd, h1, h2, h3.of (hk.2 gd h3.lt (fun e => (hT gd h3.lt e).2.1 (by rw [h1]; simp [Value.ownBlock])))⟩
  frame := h.frame.of fun k e hl => hk.2 k hl (fun hh => (hT k hl hh).2.2 e)
  fty := fun k e => by
    obtain ⟨cs, h1⟩ := h.fty k e
    exact ⟨cs, (hk.2 k (blk_lt h1) (fun hh => (hT k (blk_lt h1) hh).2.2 e)).trans h1⟩
  d64 := h.d64
  fl := h.fl
  bd := h.bd
  bf := h.bf
theorem MR.below (h : MR W g m c d f t) (hb : Below W.heap.size W W') : MR W' g m c d f t := h.kept (Kept.of_below hb (fun _ => False)) (fun _ _ e => e.elim)
theorem MR.data_own (h : MR W g m c d f t) (k : Nat) (hk : ownR g t k) : some k ≠ d.ownBlock ∧ some k ≠ f.ownBlock := by
  obtain ⟨gd, cd, h1, h2, h3⟩ := h.data
  refine ⟨fun e => ?_, fun e => ?_⟩
  · rw [h1] at e
    have e : k = gd := by simpa [Value.ownBlock] using e
    subst e
    rcases hk with e | e
    · exact ty_ne (mbt h.mb) (row_typed h3) (by decide) e.symm
    · exact ty_ne (h.tr.typed k e) (row_typed h3) (by decide) rfl
  · rcases hk with e2 | e2
    · exact ty_ne (mbt h.mb) (h.fty k e) (by decide) e2.symm
    · exact ty_ne (h.tr.typed k e2) (h.fty k e) (by decide) rfl
theorem MR.write (h : MR W g m c d f t) (hk : Kept W W' (ownR g t)) (m' : Mac) (t' : Value) (mb : MB 76 41 W' g (vals m' c d f t' undef)) (tr : TrAt W' t' m'.tr) (e2 : m'.data = m.data) (e3 : m'.frame = m.frame) : MR W' g m' c d f t' where
  mb := mb
  tr := tr
  data := by
    obtain ⟨gd, cd, h1, h2, h3⟩ := h.data
    rw [e2]
    exact ⟨gd, cd, h1, h2, h3.of (hk.2 gd h3.lt (fun e => (h.data_own gd e).1 (by rw [h1]; simp [Value.ownBlock])))⟩
  frame := by
    rw [e3]
    exact h.frame.of fun k e hl => hk.2 k hl (fun hh => (h.data_own k hh).2 e)
  fty := fun k e => by
    obtain ⟨cs, h1⟩ := h.fty k e
    exact ⟨cs, (hk.2 k (blk_lt h1) (fun hh => (h.data_own k hh).2 e)).trans h1⟩
  d64 := by rw [e2]; exact h.d64
  fl := by rw [e3]; exact h.fl
  bd := by rw [e2]; exact h.bd
  bf := by rw [e3]; exact h.bf
def LftR (W : World) (g : Nat) (m1 : Mac) (c d f t : Value) (w' : World) : Prop := ∃ f1 t1, MR w' g m1 c d f1 t1 ∧ Wr (ownR g t) W w' ∧ (∀ k, some k = t1.ownBlock → some k = t.ownBlock ∨ W.heap.size ≤ k) ∧ (∀ k, some k = f1.ownBlock → some k = f.ownBlock ∨ W.heap.size ≤ k)
theorem left_below (h : MR W g m c d f t) (hb : Below W.heap.size W W') : LftR W g m c d f t W' := ⟨f, t, h.below hb, (Wr.refl _ _).below hb, fun k e => .inl e, fun k e => .inl e⟩
theorem left_only (h : MR W g m c d f t) (ho : Only g W W') (m' : Mac) (hm : MB 76 41 W' g (vals m' c d f t undef)) (e1 : m'.tr = m.tr) (e2 : m'.data = m.data) (e3 : m'.frame = m.frame) : LftR W g m' c d f t W' := by
  have hw : Wr (ownR g t) W W' := ⟨ho.1.mono (fun k e => .inl e), ho.2⟩
  refine ⟨f, t, h.write hw.1 m' t hm ?_ e2 e3, hw, fun k e => .inl e, fun k e => .inl e⟩
  rw [e1]
  exact h.tr.kept ho.1 (fun k e hh => h.g_t (by rw [← e]; exact congrArg some hh.symm))
theorem lft_below {m2 : Mac} {W1 W2 : World} (hb : Below W.heap.size W W1) (h : LftR W1 g m2 c d f t W2) : LftR W g m2 c d f t W2 := by
  obtain ⟨f2, t2, b1, b2, b3, b4⟩ := h
  exact ⟨f2, t2, b1, ((Wr.refl _ _).below hb).then_ b2 (fun k e => .inl e), fun k e => (b3 k e).imp_right (fun hle => Nat.le_trans hb.size hle), fun k e => (b4 k e).imp_right (fun hle => Nat.le_trans hb.size hle)⟩
theorem lft_then {m1 m2 : Mac} {W1 W2 : World} (h : LftR W g m1 c d f t W1) (k : ∀ f1 t1, MR W1 g m1 c d f1 t1 → LftR W1 g m2 c d f1 t1 W2) : LftR W g m2 c d f t W2 := by
  obtain ⟨f1, t1, a1, a2, a3, a4⟩ := h
  obtain ⟨f2, t2, b1, b2, b3, b4⟩ := k f1 t1 a1
  refine ⟨f2, t2, b1, a2.then_ b2 (fun k hk => ?_), fun k hk => ?_, fun k hk => ?_⟩
  · rcases hk with e | e
    · exact .inl (.inl e)
    · exact (a3 k e).imp (fun e => .inr e) id
  · exact (b3 k hk).elim (fun e => a3 k e) (fun e => .inr (Nat.le_trans a2.1.1 e))
  · exact (b4 k hk).elim (fun e => a4 k e) (fun e => .inr (Nat.le_trans a2.1.1 e))
end
end Go.Proofs.YtcgkgaibomcheaaGreat.RM
end
