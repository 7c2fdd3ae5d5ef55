/- Joined out of this claim's texts: KeptH, RNew, ROut, RRun. Conditions: those of each theorem. -/
import Derived.Test.YtcgkgaibomcheaaGreatZC01
import Derived.Test.YtcgkgaibomcheaaGreatZC21
import Derived.Test.YtcgkgaibomcheaaGreatZC18
import Derived.Test.YtcgkgaibomcheaaGreatZC19
import Derived.Test.YtcgkgaibomcheaaGreatZC16
set_option linter.unusedVariables false
set_option linter.unusedSimpArgs false
section
namespace Go.Proofs.YtcgkgaibomcheaaGreat.KeptH
open Go.RowKit Bits Mb Rd RDec SameH PRvemuRuns YtcgkgaibomcheaaGreatW.PrintWords YtcgkgaibomcheaaGreatW.PrintLast YtcgkgaibomcheaaGreatW.PrintMore
set_option maxRecDepth 20000 in
set_option maxHeartbeats 1000000 in
theorem kept_yes (A0 A1 A2 A3 B0 B1 B2 B3 : Option Addr) (c0 c1 c2 c3 d0 d1 d2 d3 : Nat) (lc ld L ls : List Int) (fr fu : Int) (w : World) (a0 : (Kd.int .u8).C w A0 lc.length lc) (a1 : (Kd.int .u8).C w A1 ld.length ld) (a2 : (Kd.int .u64).C w A2 L.length L) (a3 : (Kd.int .u8).C w A3 ls.length ls) (b0 : (Kd.int .u8).C w B0 lc.length lc) (b1 : (Kd.int .u8).C w B1 ld.length ld) (b2 : (Kd.int .u64).C w B2 L.length L) (b3 : (Kd.int .u8).C w B3 ls.length ls) (hL : L.length ≤ 1000000000000000) :
    Calls Tryz.prog 16 #[.agg #[.slice A0 lc.length c0, .slice A1 ld.length c1, .slice A2 L.length c2, .slice A3 ls.length c3, .int .i64 fr, .int .i64 fu], .agg #[.slice B0 lc.length d0, .slice B1 ld.length d1, .slice B2 L.length d2, .slice B3 ls.length d3, .int .i64 fr, .int .i64 fu]] w fun e w' => e = .returned (.bool true) ∧ Below w.heap.size w w' := by
  have hu25 := Tryz.underlying25
  have Ha0 := Aside0.mk a0
  have Ha1 := Aside0.mk a1
  have Ha2 := Aside0.mk a2
  have Ha3 := Aside0.mk a3
  have Hb0 := Aside0.mk b0
  have Hb1 := Aside0.mk b1
  have Hb2 := Aside0.mk b2
  have Hb3 := Aside0.mk b3
  have HL := Aside0.mk hL
  clear a0 a1 a2 a3 b0 b1 b2 b3 hL
  have HB := Aside0.mk (below_alloc (below_alloc (Below.refl w.heap.size w) (.cells #[.slice A0 lc.length c0, .slice A1 ld.length c1, .slice A2 L.length c2, .slice A3 ls.length c3, .int .i64 fr, .int .i64 fu] 25)) (.cells #[.slice B0 lc.length d0, .slice B1 ld.length d1, .slice B2 L.length d2, .slice B3 ls.length d3, .int .i64 fr, .int .i64 fu] 25))
  have HA1 := Aside0.mk (blk_below (blk_new w (.cells #[.slice A0 lc.length c0, .slice A1 ld.length c1, .slice A2 L.length c2, .slice A3 ls.length c3, .int .i64 fr, .int .i64 fu] 25)) (below_alloc (Below.refl _ _) (.cells #[.slice B0 lc.length d0, .slice B1 ld.length d1, .slice B2 L.length d2, .slice B3 ls.length d3, .int .i64 fr, .int .i64 fu] 25)))
  have HA2 := Aside0.mk (blk_new (w.alloc (.cells #[.slice A0 lc.length c0, .slice A1 ld.length c1, .slice A2 L.length c2, .slice A3 ls.length c3, .int .i64 fr, .int .i64 fu] 25)) (.cells #[.slice B0 lc.length d0, .slice B1 ld.length d1, .slice B2 L.length d2, .slice B3 ls.length d3, .int .i64 fr, .int .i64 fu] 25))
  simp only [World.size_alloc] at HA2
  have v0 := Kd.C_string (P := Tryz.prog) (A := A0) (c := c0) Tryz.underlying22 Tryz.underlying5 Tryz.underlying9 (Kd.C_below Ha0.out HB.out)
  have v1 := Kd.C_string (P := Tryz.prog) (A := A1) (c := c1) Tryz.underlying22 Tryz.underlying5 Tryz.underlying9 (Kd.C_below Ha1.out HB.out)
  have v3 := Kd.C_string (P := Tryz.prog) (A := A3) (c := c3) Tryz.underlying22 Tryz.underlying5 Tryz.underlying9 (Kd.C_below Ha3.out HB.out)
  have u0 := Kd.C_string (P := Tryz.prog) (A := B0) (c := d0) Tryz.underlying22 Tryz.underlying5 Tryz.underlying9 (Kd.C_below Hb0.out HB.out)
  have u1 := Kd.C_string (P := Tryz.prog) (A := B1) (c := d1) Tryz.underlying22 Tryz.underlying5 Tryz.underlying9 (Kd.C_below Hb1.out HB.out)
  have u3 := Kd.C_string (P := Tryz.prog) (A := B3) (c := d3) Tryz.underlying22 Tryz.underlying5 Tryz.underlying9 (Kd.C_below Hb3.out HB.out)
  go_enter Tryz.func16, Tryz.ntmps16
  go_wp2
  clear v0 v1 v3 u0 u1 u3
  generalize ((w.alloc (.cells #[.slice A0 lc.length c0, .slice A1 ld.length c1, .slice A2 L.length c2, .slice A3 ls.length c3, .int .i64 fr, .int .i64 fu] 25)).alloc (.cells #[.slice B0 lc.length d0, .slice B1 ld.length d1, .slice B2 L.length d2, .slice B3 ls.length d3, .int .i64 fr, .int .i64 fu] 25)) = W0 at *
  go_loopw [5] (fun v5 W => ∃ i : Nat, v5 = .int .i64 (i : Int) ∧ i ≤ L.length ∧ Aside0 (Below W0.heap.size W0 W)) (fun v5 _ => L.length - (intOf v5).toNat)
  case atStart => exact ⟨0, rfl, by omega, ⟨Below.refl _ _⟩⟩
  case round =>
    obtain ⟨i, rfl, hi, HW⟩ := hrel
    have x3 := blk_cell (blk_below HA1.out HW.out) 2
    have y3 := blk_cell (blk_below HA2.out HW.out) 2
    simp only [List.getElem?_toArray, List.getElem?_cons_zero, List.getElem?_cons_succ] at x3 y3
    have HBW := Aside0.mk (below_step HB.out HW.out)
    by_cases hlt : i < L.length
    · have t1 : decide ((i : Int) < (L.length : Int)) = true := decide_eq_true (by omega)
      have u1 : ((i : Int) < (L.length : Int)) = True := eq_true (by omega)
      have u2 : (0 ≤ (i : Int)) = True := eq_true (by omega)
      obtain ⟨ad, rfl, z1⟩ := at_num (Kd.C_below Ha2.out HBW.out) i hlt
      obtain ⟨ad', rfl, z2⟩ := at_num (Kd.C_below Hb2.out HBW.out) i hlt
      have HI := Aside0.mk hlt
      clear hlt
      go_wp2_with fail
      refine start_ (n := 11) (S := fun w' => w'.cell? ⟨w.heap.size, 2, none⟩ = some (.slice (some ad) L.length c2) ∧ w'.cell? ⟨w.heap.size + 1, 2, none⟩ = some (.slice (some ad') L.length d2) ∧ w'.cell? (ad.add i) = some (.int .u64 (L.getD i 0)) ∧ w'.cell? (ad'.add i) = some (.int .u64 (L.getD i 0))) (ds := []) #[vF,vF,vF,vF,vF,vF,vF,vF,vF,vF,vF] (by kernel_rfl) rfl rfl ⟨x3, y3, z1, z2⟩ (fun hHeld => ?_)
      refine pure_ (i := 0) (N := some 47) (v := ?_) (a' := ?_) #[vT,vF,vF,vF,vF,vF,vF,vF,vF,vF,vF] rfl rfl (by kernel_rfl) (fun _ _ _ h => h) (Or.inl ⟨by rfl, ?_⟩) ?_ ?_
      rotate_left
      · intro w'; go_simp; with_reducible rfl
      rotate_left
      · simp only [Act.put, List.setIfInBounds_toArray, List.set, i64_w, i32_w]
        rfl
      refine pure_ (i := 2) (N := some 49) (v := ?_) (a' := ?_) #[vT,vF,vT,vF,vF,vF,vF,vF,vF,vF,vF] rfl rfl (by kernel_rfl) (fun _ _ _ h => h) (Or.inl ⟨by rfl, ?_⟩) ?_ ?_
      rotate_left
      · intro w'; go_simp; with_reducible rfl
      rotate_left
      · simp only [Act.put, List.setIfInBounds_toArray, List.set, i64_w, i32_w]
        rfl
      refine pure_ (i := 5) (N := some 52) (v := ?_) (a' := ?_) #[vT,vF,vT,vF,vF,vT,vF,vF,vF,vF,vF] rfl rfl (by kernel_rfl) (fun _ _ _ h => h) (Or.inl ⟨by rfl, ?_⟩) ?_ ?_
      rotate_left
      · intro w'; go_simp; with_reducible rfl
      rotate_left
      · simp only [Act.put, List.setIfInBounds_toArray, List.set, i64_w, i32_w]
        rfl
      refine pure_ (i := 7) (N := some 54) (v := ?_) (a' := ?_) #[vT,vF,vT,vF,vF,vT,vF,vT,vF,vF,vF] rfl rfl (by kernel_rfl) (fun _ _ _ h => h) (Or.inl ⟨by rfl, ?_⟩) ?_ ?_
      rotate_left
      · intro w'; go_simp; with_reducible rfl
      rotate_left
      · simp only [Act.put, List.setIfInBounds_toArray, List.set, i64_w, i32_w]
        rfl
      refine take_ (i := 1) (N := some 48) (v := ?_) (a' := ?_) #[vT,vT,vT,vF,vF,vT,vF,vT,vF,vF,vF] rfl rfl (by kernel_rfl) (fun _ _ _ h => h) (Or.inl ⟨by rfl, ?_⟩) hHeld ?_ ?_
      rotate_left
      · rintro w' ⟨s0, s1, s2, s3⟩; go_simp; with_reducible rfl
      rotate_left
      · simp only [Act.put, List.setIfInBounds_toArray, List.set, i64_w, i32_w]
        rfl
      refine pure_ (i := 3) (N := some 50) (v := ?_) (a' := ?_) #[vT,vT,vT,vT,vF,vT,vF,vT,vF,vF,vF] rfl rfl (by kernel_rfl) (fun _ _ _ h => h) (Or.inl ⟨by rfl, ?_⟩) ?_ ?_
      rotate_left
      · intro w'; go_simp; with_reducible rfl
      rotate_left
      · simp only [Act.put, List.setIfInBounds_toArray, List.set, i64_w, i32_w]
        rfl
      refine take_ (i := 4) (N := some 51) (v := ?_) (a' := ?_) #[vT,vT,vT,vT,vT,vT,vF,vT,vF,vF,vF] rfl rfl (by kernel_rfl) (fun _ _ _ h => h) (Or.inl ⟨by rfl, ?_⟩) hHeld ?_ ?_
      rotate_left
      · rintro w' ⟨s0, s1, s2, s3⟩; go_simp; with_reducible rfl
      rotate_left
      · simp only [Act.put, List.setIfInBounds_toArray, List.set, i64_w, i32_w]
        rfl
      refine take_ (i := 6) (N := some 53) (v := ?_) (a' := ?_) #[vT,vT,vT,vT,vT,vT,vT,vT,vF,vF,vF] rfl rfl (by kernel_rfl) (fun _ _ _ h => h) (Or.inl ⟨by rfl, ?_⟩) hHeld ?_ ?_
      rotate_left
      · rintro w' ⟨s0, s1, s2, s3⟩; go_simp; with_reducible rfl
      rotate_left
      · simp only [Act.put, List.setIfInBounds_toArray, List.set, i64_w, i32_w]
        rfl
      refine pure_ (i := 8) (N := some 55) (v := ?_) (a' := ?_) #[vT,vT,vT,vT,vT,vT,vT,vT,vT,vF,vF] rfl rfl (by kernel_rfl) (fun _ _ _ h => h) (Or.inl ⟨by rfl, ?_⟩) ?_ ?_
      rotate_left
      · intro w'; go_simp; with_reducible rfl
      rotate_left
      · simp only [Act.put, List.setIfInBounds_toArray, List.set, i64_w, i32_w]
        rfl
      refine take_ (i := 9) (N := some 56) (v := ?_) (a' := ?_) #[vT,vT,vT,vT,vT,vT,vT,vT,vT,vT,vF] rfl rfl (by kernel_rfl) (fun _ _ _ h => h) (Or.inl ⟨by rfl, ?_⟩) hHeld ?_ ?_
      rotate_left
      · rintro w' ⟨s0, s1, s2, s3⟩; go_simp; with_reducible rfl
      rotate_left
      · simp only [Act.put, List.setIfInBounds_toArray, List.set, i64_w, i32_w]
        rfl
      refine pure_ (i := 10) (N := some 57) (v := ?_) (a' := ?_) #[vT,vT,vT,vT,vT,vT,vT,vT,vT,vT,vT] rfl rfl (by kernel_rfl) (fun _ _ _ h => h) (Or.inl ⟨by rfl, ?_⟩) ?_ ?_
      rotate_left
      · intro w'; go_simp; with_reducible rfl
      rotate_left
      · simp only [Act.put, List.setIfInBounds_toArray, List.set, i64_w, i32_w]
        rfl
      refine done_ (by kernel_rfl) ?_
      clear hHeld
      go_wp2_with fail
      have hi3 := HI.out
      have hw : wrap64 ((i : Int) + 1) = ((i + 1 : Nat) : Int) := by
        have := HL.out
        unfold wrap64
        omega
      rw [hw]
      exact ⟨⟨i + 1, rfl, by omega, ⟨pw_below_drewN HW.out 1⟩⟩, by simp only [intOf, Int.toNat_natCast]; omega⟩
    · have t1 : decide ((i : Int) < (L.length : Int)) = false := decide_eq_false (by omega)
      have u1 : ((i : Int) < (L.length : Int)) = False := eq_false (by omega)
      clear hlt
      go_wp2_with fail
      go_ret
      exact ⟨rfl, HBW.out⟩
end Go.Proofs.YtcgkgaibomcheaaGreat.KeptH
end

section
namespace Go.Proofs.YtcgkgaibomcheaaGreat.RNew
open Go.RowKit Bits Mac Mb Rd RDec EM RM Fill NewM NewE NewR PRvemuRuns YtcgkgaibomcheaaGreatW.PrintWords YtcgkgaibomcheaaGreatW.PrintLast YtcgkgaibomcheaaGreatW.PrintMore
theorem filled_form {W w' : World} {v : Value} {l : List Int} {n : Nat} (h : Filled W v l n w') (hn : 0 < n) : ∃ gd cd, v = .slice (some ⟨gd, 0, none⟩) n cd ∧ n ≤ cd := by
  obtain ⟨A, c, e, hc, hr⟩ := h.1
  rw [pad_len] at e hc
  rcases hr with hr | ⟨b, hb, _⟩
  · have := pad_len l n
    rw [hr] at this
    simp at this
    omega
  · subst hb
    exact ⟨b, c, e, hc⟩
set_option maxRecDepth 20000 in
set_option maxHeartbeats 1000000 in
theorem news (cA dA rA sA : Option Addr) (cc dc rc sc : Nat) (lc ld ls lr : List Int) (fr fu : Int) (w : World)
    (hd : (Kd.int .u8).C w dA ld.length ld) (hdc : ld.length ≤ dc) (hr : (Kd.int .u64).C w rA lr.length lr) (hs : (Kd.int .u8).C w sA ls.length ls) (hsc : ls.length ≤ sc) (hbd : isBytes ld) (hbs : isBytes ls) (hwr : isWords lr) :
    Calls Tryz.prog 20 #[.agg #[.slice cA lc.length cc, .slice dA ld.length dc, .slice rA lr.length rc, .slice sA ls.length sc, .int .i64 fr, .int .i64 fu]] w fun e w' => ∃ g d f, e = .returned (.pointer (some ⟨g, 0, none⟩)) ∧ OutR w.heap.size w' g (.slice cA lc.length cc) d f (newM lc ld lr ls fr fu) ∧ Below w.heap.size w w' := by
  have hbz := below_alloc (Below.refl w.heap.size w) (.cells #[.slice cA lc.length cc, .slice dA ld.length dc, .slice rA lr.length rc, .slice sA ls.length sc, .int .i64 fr, .int .i64 fu] 25)
  have HC36 := Aside0.mk (show ∀ W1, Below w.heap.size w W1 → Calls Tryz.prog 36 #[.slice dA ld.length dc, .int .i64 64] W1 fun e w' => ∃ gd cd, e = .returned (.slice (some ⟨gd, 0, none⟩) 64 cd) ∧ 64 ≤ cd ∧ Filled W1 (.slice (some ⟨gd, 0, none⟩) 64 cd) ld 64 w' ∧ Below W1.heap.size W1 w' from fun W1 hb => by
    refine (filled36 dA dc ld 64 W1 (Kd.C_below hd hb) hdc (by omega)).mono fun e w' hh => ?_
    obtain ⟨v, he, hr⟩ := hh
    obtain ⟨gd, cd, ev, h64⟩ := filled_form hr (by omega)
    subst ev
    exact ⟨gd, cd, he, h64, hr, hr.2.2⟩)
  have hB := blk_new w (.cells #[.slice cA lc.length cc, .slice dA ld.length dc, .slice rA lr.length rc, .slice sA ls.length sc, .int .i64 fr, .int .i64 fu] 25)
  have HRC := Aside0.mk hr
  have HBD := Aside0.mk hbd
  have HBS := Aside0.mk hbs
  have HWR := Aside0.mk hwr
  have HS34 := Aside0.mk (show ∀ W1, Below w.heap.size w W1 → 0 ≤ fr → fr ≤ 1048576 → Calls Tryz.prog 36 #[.slice sA ls.length sc, .int .i64 fr] W1 fun e w' => ∃ f, e = .returned f ∧ Filled W1 f ls fr.toNat w' from fun W1 hb h0 h1 => by
    have hx := filled36 sA sc ls fr.toNat W1 (Kd.C_below hs hb) hsc (by omega)
    rw [Int.toNat_of_nonneg h0] at hx
    exact hx)
  clear hd hr hs hbd hbs hwr hdc hsc
  obtain ⟨nC, hnC⟩ : ∃ nC, lc.length = nC := ⟨_, rfl⟩
  obtain ⟨nD, hnD⟩ : ∃ nD, ld.length = nD := ⟨_, rfl⟩
  obtain ⟨nR, hnR⟩ : ∃ nR, lr.length = nR := ⟨_, rfl⟩
  obtain ⟨nS, hnS⟩ : ∃ nS, ls.length = nS := ⟨_, rfl⟩
  have NC := Aside0.mk hnC
  have ND := Aside0.mk hnD
  have NR := Aside0.mk hnR
  have NS := Aside0.mk hnS
  rw [hnC] at hB hbz
  rw [hnD] at HC36 hB hbz
  rw [hnR, hnS] at hB hbz
  rw [hnS] at HS34
  rw [hnC, hnD, hnR, hnS]
  clear hnC hnD hnR hnS
  go_enter Tryz.func20, Tryz.ntmps20
  go_wp2_with fail
  obtain ⟨W0, hW0⟩ : ∃ W0, w.alloc (.cells #[.slice cA nC cc, .slice dA nD dc, .slice rA nR rc, .slice sA nS sc, .int .i64 fr, .int .i64 fu] 25) = W0 := ⟨_, rfl⟩
  rw [hW0] at hB hbz ⊢
  have HB0 := Aside0.mk hB
  have HBZ := Aside0.mk hbz
  have HSZ := Aside0.mk (show W0.heap.size = w.heap.size + 1 from by rw [← hW0, World.size_alloc])
  have x0 := blk_cell HB0.out 0
  have x1 := blk_cell HB0.out 1
  have x5 := blk_cell HB0.out 5
  simp only [List.getElem?_toArray, List.getElem?_cons_zero, List.getElem?_cons_succ] at x0 x1 x5
  have HW0 := Aside0.mk hW0
  clear hW0 hB hbz
  have L := below_drew1 (Below.refl W0.heap.size W0)
  refine start_ (n := 10) (S := fun w' => w'.cell? ⟨w.heap.size, 0, none⟩ = some (.slice cA nC cc) ∧ w'.cell? ⟨w.heap.size, 1, none⟩ = some (.slice dA nD dc) ∧ w'.cell? ⟨w.heap.size, 5, none⟩ = some (.int .i64 fu)) (ds := []) #[vF,vF,vF,vF,vF,vF,vF,vF,vF,vF] (by kernel_rfl) rfl rfl ⟨kB L x0, kB L x1, kB L x5⟩ (fun hHeld => ?_)
  refine pure_ (i := 0) (N := some 5) (v := ?_) (a' := ?_) #[vT,vF,vF,vF,vF,vF,vF,vF,vF,vF] rfl rfl (by kernel_rfl) (fun _ _ _ h => h) (Or.inl ⟨by rfl, ?_⟩) ?_ ?_
  rotate_left
  · intro w'; go_simp; with_reducible rfl
  rotate_left
  · simp only [Act.put, List.setIfInBounds_toArray, List.set, i64_w, i32_w]
    rfl
  refine pure_ (i := 2) (N := some 7) (v := ?_) (a' := ?_) #[vT,vF,vT,vF,vF,vF,vF,vF,vF,vF] rfl rfl (by kernel_rfl) (fun _ _ _ h => h) (Or.inl ⟨by rfl, ?_⟩) ?_ ?_
  rotate_left
  · intro w'; go_simp; with_reducible rfl
  rotate_left
  · simp only [Act.put, List.setIfInBounds_toArray, List.set, i64_w, i32_w]
    rfl
  refine pure_ (i := 5) (N := some 10) (v := ?_) (a' := ?_) #[vT,vF,vT,vF,vF,vT,vF,vF,vF,vF] rfl rfl (by kernel_rfl) (fun _ _ _ h => h) (Or.inl ⟨by rfl, ?_⟩) ?_ ?_
  rotate_left
  · intro w'; go_simp; with_reducible rfl
  rotate_left
  · simp only [Act.put, List.setIfInBounds_toArray, List.set, i64_w, i32_w]
    rfl
  refine take_ (i := 1) (N := some 6) (v := ?_) (a' := ?_) #[vT,vT,vT,vF,vF,vT,vF,vF,vF,vF] rfl rfl (by kernel_rfl) (fun _ _ _ h => h) (Or.inl ⟨by rfl, ?_⟩) hHeld ?_ ?_
  rotate_left
  · rintro w' ⟨s0, s1, s2⟩; go_simp; with_reducible rfl
  rotate_left
  · simp only [Act.put, List.setIfInBounds_toArray, List.set, i64_w, i32_w]
    rfl
  refine take_ (i := 3) (N := some 8) (v := ?_) (a' := ?_) #[vT,vT,vT,vT,vF,vT,vF,vF,vF,vF] rfl rfl (by kernel_rfl) (fun _ _ _ h => h) (Or.inl ⟨by rfl, ?_⟩) hHeld ?_ ?_
  rotate_left
  · rintro w' ⟨s0, s1, s2⟩; go_simp; with_reducible rfl
  rotate_left
  · simp only [Act.put, List.setIfInBounds_toArray, List.set, i64_w, i32_w]
    rfl
  refine take_ (i := 6) (N := some 11) (v := ?_) (a' := ?_) #[vT,vT,vT,vT,vF,vT,vT,vF,vF,vF] rfl rfl (by kernel_rfl) (fun _ _ _ h => h) (Or.inl ⟨by rfl, ?_⟩) hHeld ?_ ?_
  rotate_left
  · rintro w' ⟨s0, s1, s2⟩; go_simp; with_reducible rfl
  rotate_left
  · simp only [Act.put, List.setIfInBounds_toArray, List.set, i64_w, i32_w]
    rfl
  refine one_ (i := 4) (N := some 9) #[vT,vT,vT,vT,vT,vT,vT,vF,vF,vF] rfl rfl (by kernel_rfl) (by decide) (fun K hK => ?_)
  refine goes_ Tryz.func36 (by kernel_rfl) rfl #[.slice dA nD dc, .int .i64 64] (by rfl) rfl rfl (by simp only [List.map_toArray, List.map_cons, List.map_nil]; rfl) ?_
  with_reducible refine (HC36.out _ (below_step HBZ.out L)).mono ?_
  rintro e w10 ⟨gd, cd, rfl, hcd, hdata, hb5⟩
  refine ⟨_, rfl, ?_⟩
  have HCD := Aside0.mk hcd
  have hle9 := (below_step HBZ.out L).size
  clear hcd
  have hdata := Aside0.mk hdata
  have L := below_step L hb5
  have HB5 := Aside0.mk hb5
  refine hK.out _ _ ⟨kB L x0, kB L x1, kB L x5⟩ (fun hHeld => ?_)
  clear hK K
  refine norm_ (a' := ?_) ?_ ?_
  rotate_left
  · show Act.put _ (some 9) _ = _; simp only [Act.put, List.setIfInBounds_toArray, List.set, i64_w, i32_w]; rfl
  refine pure_ (i := 7) (N := some 12) (v := ?_) (a' := ?_) #[vT,vT,vT,vT,vT,vT,vT,vT,vF,vF] rfl rfl (by kernel_rfl) (fun _ _ _ h => h) (Or.inl ⟨by rfl, ?_⟩) ?_ ?_
  rotate_left
  · intro w'; go_simp; with_reducible rfl
  rotate_left
  · simp only [Act.put, List.setIfInBounds_toArray, List.set, i64_w, i32_w]
    rfl
  refine one_ (i := 8) (N := some 13) #[vT,vT,vT,vT,vT,vT,vT,vT,vT,vF] rfl rfl (by kernel_rfl) (by decide) (fun K hK => ?_)
  refine value_ (w1 := ?_) (v := ?_) (by rfl) rfl ?_ ?_
  rotate_left 2
  · go_simp
    constructor
    · rfl
    · rfl
  have L11 := L
  obtain ⟨W12, hW12⟩ : ∃ W12, w10.alloc (.cells (bareR fu (.slice cA nC cc) (.slice (some ⟨gd, 0, none⟩) 64 cd)) 76) = W12 := ⟨_, rfl⟩
  have hblk := blk_new w10 (.cells (bareR fu (.slice cA nC cc) (.slice (some ⟨gd, 0, none⟩) 64 cd)) 76)
  have L := below_alloc L (.cells (bareR fu (.slice cA nC cc) (.slice (some ⟨gd, 0, none⟩) 64 cd)) 76)
  rw [hW12] at L hblk
  have HBLK := Aside0.mk hblk
  refine swapw (W := W12) hW12.symm ?_
  refine hK.out _ _ ⟨kB L x0, kB L x1, kB L x5⟩ (fun hHeld => ?_)
  clear hK K
  refine norm_ (a' := ?_) ?_ ?_
  rotate_left
  · show Act.put _ (some 13) _ = _; simp only [Act.put, List.setIfInBounds_toArray, List.set, i64_w, i32_w]; rfl
  refine pure_ (i := 9) (N := some 3) (v := ?_) (a' := ?_) #[vT,vT,vT,vT,vT,vT,vT,vT,vT,vT] rfl rfl (by kernel_rfl) (fun _ _ _ h => h) (Or.inl ⟨by rfl, ?_⟩) ?_ ?_
  rotate_left
  · intro w'; go_simp; with_reducible rfl
  rotate_left
  · simp only [Act.put, List.setIfInBounds_toArray, List.set, i64_w, i32_w]
    rfl
  refine done_ (by kernel_rfl) ?_
  have hp0 := pre_newR (.cells (bareR fu (.slice cA nC cc) (.slice (some ⟨gd, 0, none⟩) 64 cd)) 76) hdata.out hle9
  rw [hW12] at hp0
  have HP := Aside0.mk hp0
  have HENV := Aside0.mk (blk_below HB0.out L)
  have HEG := Aside0.mk (show w.heap.size < w10.heap.size from by
    have h2 := HB5.out.size
    have h4 := HSZ.out
    have h5 : W0.drew.heap.size = W0.heap.size := rfl
    omega)
  have HL := Aside0.mk (below_step HBZ.out L)
  have hm0 : MB 76 41 W12 w10.heap.size (vals (bare lc ld (fun _ => 0#64) fu) (.slice cA nC cc) (.slice (some ⟨gd, 0, none⟩) 64 cd) (.slice none 0 0) (.slice none 0 0) undef) := ⟨_, HBLK.out, cells_bareR lc ld fu _ _⟩
  rw [← upto_one lr] at hm0
  have HM := Aside0.mk hm0
  have x2 := blk_cell HENV.out 2
  simp only [List.getElem?_toArray, List.getElem?_cons_zero, List.getElem?_cons_succ] at x2
  clear hdata hle9 HB5 hHeld x0 x1 x5 x2 HC36 HSZ HW0 HBZ HB0 L L11 hp0 hW12 hblk hm0 HBLK
  generalize w10.heap.size = g at *
  go_wp2_with fail
  go_loopw [4] (fun v4 W => ∃ i : Nat, v4 = .int .i64 (i : Int) ∧ 1 ≤ i ∧ i ≤ 32 ∧ Aside0 (MB 76 41 W g (vals (bare lc ld (upto lr i) fu) (.slice cA nC cc) (.slice (some ⟨gd, 0, none⟩) 64 cd) (.slice none 0 0) (.slice none 0 0) undef)) ∧ Aside0 (PreR w.heap.size W g gd ld) ∧ Aside0 (W.heap[w.heap.size]? = some (.cells #[.slice cA nC cc, .slice dA nD dc, .slice rA nR rc, .slice sA nS sc, .int .i64 fr, .int .i64 fu] 25 (0, 0))) ∧ Aside0 (Below w.heap.size w W)) (fun v4 _ => 32 - (intOf v4).toNat)
  case atStart => exact ⟨1, rfl, by omega, by omega, HM, HP, HENV, HL⟩
  case round =>
    clear HM HP HENV HL
    obtain ⟨i, rfl, hi1, hi2, HM, HP, HENV, HL⟩ := hrel
    have x2 := blk_cell HENV.out 2
    simp only [List.getElem?_toArray, List.getElem?_cons_zero, List.getElem?_cons_succ] at x2
    by_cases hc : i < 32 ∧ i < nR
    · obtain ⟨hlt, hln⟩ := hc
      obtain ⟨ad, ea, xe⟩ := Kd.at_int HRC.out (i : Int) (by omega) (by rw [NR.out]; omega)
      subst ea
      have HAB := Aside0.mk (World.block_lt_of_cell? w _ xe)
      have xe : wr.cell? (ad.add i) = some (.int .u64 (lr.getD i 0)) := by
        have h := (HL.out.cell HAB.out).trans xe
        rw [Int.toNat_natCast] at h
        rw [h]
        unfold rd
        simp
      have t1 : decide ((i : Int) < 32) = true := decide_eq_true (by omega)
      have t2 : decide ((i : Int) < (nR : Int)) = true := decide_eq_true (by omega)
      have u1 : ((i : Int) < 32) = True := eq_true (by omega)
      have u2 : ((i : Int) < (nR : Int)) = True := eq_true (by omega)
      obtain ⟨vx, hvx⟩ : ∃ vx, lr.getD i 0 = vx := ⟨_, rfl⟩
      rw [hvx] at xe
      have HV := Aside0.mk hvx
      clear hvx
      have c0_ := HM.out.cell (3 + i) (by omega)
      have e0_ := HM.out.frozen (3 + i)
      have HI := Aside0.mk (show 1 ≤ i ∧ i < 32 ∧ i < nR from ⟨hi1, hlt, hln⟩)
      have HEG1 := Aside0.mk (show w.heap.size ≠ g from Nat.ne_of_lt HEG.out)
      clear hlt hln
      have HEG2 := Aside0.mk (show (ad.add i).block ≠ g from by
        have h := HAB.out
        rw [Int.toNat_natCast] at h
        have := HEG.out
        omega)
      go_wp2_with fail
      refine start_ (n := 11) (S := fun w' => w'.cell? ⟨w.heap.size, 2, none⟩ = some (.slice (some ad) nR rc) ∧ w'.cell? (ad.add i) = some (.int .u64 vx)) (ds := []) #[vF,vF,vF,vF,vF,vF,vF,vF,vF,vF,vF] (by kernel_rfl) rfl rfl ⟨x2, xe⟩ (fun hHeld => ?_)
      refine pure_ (i := 0) (N := some 25) (v := ?_) (a' := ?_) #[vT,vF,vF,vF,vF,vF,vF,vF,vF,vF,vF] rfl rfl (by kernel_rfl) (fun _ _ _ h => h) (Or.inl ⟨by rfl, ?_⟩) ?_ ?_
      rotate_left
      · intro w'; go_simp; with_reducible rfl
      rotate_left
      · simp only [Act.put, List.setIfInBounds_toArray, List.set, i64_w, i32_w]
        rfl
      refine pure_ (i := 1) (N := some 26) (v := ?_) (a' := ?_) #[vT,vT,vF,vF,vF,vF,vF,vF,vF,vF,vF] rfl rfl (by kernel_rfl) (fun _ _ _ h => h) (Or.inl ⟨by rfl, ?_⟩) ?_ ?_
      rotate_left
      · intro w'; go_simp; with_reducible rfl
      rotate_left
      · simp only [Act.put, List.setIfInBounds_toArray, List.set, i64_w, i32_w]
        rfl
      refine pure_ (i := 2) (N := some 27) (v := ?_) (a' := ?_) #[vT,vT,vT,vF,vF,vF,vF,vF,vF,vF,vF] rfl rfl (by kernel_rfl) (fun _ _ _ h => h) (Or.inl ⟨by rfl, ?_⟩) ?_ ?_
      rotate_left
      · intro w'; go_simp; with_reducible rfl
      rotate_left
      · simp only [Act.put, List.setIfInBounds_toArray, List.set, i64_w, i32_w]
        rfl
      refine pure_ (i := 4) (N := some 29) (v := ?_) (a' := ?_) #[vT,vT,vT,vF,vT,vF,vF,vF,vF,vF,vF] rfl rfl (by kernel_rfl) (fun _ _ _ h => h) (Or.inl ⟨by rfl, ?_⟩) ?_ ?_
      rotate_left
      · intro w'; go_simp; with_reducible rfl
      rotate_left
      · simp only [Act.put, List.setIfInBounds_toArray, List.set, i64_w, i32_w]
        rfl
      refine pure_ (i := 7) (N := some 32) (v := ?_) (a' := ?_) #[vT,vT,vT,vF,vT,vF,vF,vT,vF,vF,vF] rfl rfl (by kernel_rfl) (fun _ _ _ h => h) (Or.inl ⟨by rfl, ?_⟩) ?_ ?_
      rotate_left
      · intro w'; go_simp; with_reducible rfl
      rotate_left
      · simp only [Act.put, List.setIfInBounds_toArray, List.set, i64_w, i32_w]
        rfl
      refine pure_ (i := 8) (N := some 33) (v := ?_) (a' := ?_) #[vT,vT,vT,vF,vT,vF,vF,vT,vT,vF,vF] rfl rfl (by kernel_rfl) (fun _ _ _ h => h) (Or.inl ⟨by rfl, ?_⟩) ?_ ?_
      rotate_left
      · intro w'; go_simp; with_reducible rfl
      rotate_left
      · simp only [Act.put, List.setIfInBounds_toArray, List.set, i64_w, i32_w]
        rfl
      refine take_ (i := 3) (N := some 28) (v := ?_) (a' := ?_) #[vT,vT,vT,vT,vT,vF,vF,vT,vT,vF,vF] rfl rfl (by kernel_rfl) (fun _ _ _ h => h) (Or.inl ⟨by rfl, ?_⟩) hHeld ?_ ?_
      rotate_left
      · rintro w' ⟨s0, s1⟩; go_simp; with_reducible rfl
      rotate_left
      · simp only [Act.put, List.setIfInBounds_toArray, List.set, i64_w, i32_w]
        rfl
      refine pure_ (i := 5) (N := some 30) (v := ?_) (a' := ?_) #[vT,vT,vT,vT,vT,vT,vF,vT,vT,vF,vF] rfl rfl (by kernel_rfl) (fun _ _ _ h => h) (Or.inl ⟨by rfl, ?_⟩) ?_ ?_
      rotate_left
      · intro w'; go_simp; with_reducible rfl
      rotate_left
      · simp only [Act.put, List.setIfInBounds_toArray, List.set, i64_w, i32_w]
        rfl
      refine take_ (i := 6) (N := some 31) (v := ?_) (a' := ?_) #[vT,vT,vT,vT,vT,vT,vT,vT,vT,vF,vF] rfl rfl (by kernel_rfl) (fun _ _ _ h => h) (Or.inl ⟨by rfl, ?_⟩) hHeld ?_ ?_
      rotate_left
      · rintro w' ⟨s0, s1⟩; go_simp; with_reducible rfl
      rotate_left
      · simp only [Act.put, List.setIfInBounds_toArray, List.set, i64_w, i32_w]
        rfl
      refine pure_ (i := 9) (N := some 34) (v := ?_) (a' := ?_) #[vT,vT,vT,vT,vT,vT,vT,vT,vT,vT,vF] rfl rfl (by kernel_rfl) (fun _ _ _ h => h) (Or.inl ⟨by rfl, ?_⟩) ?_ ?_
      rotate_left
      · intro w'; go_simp; with_reducible rfl
      rotate_left
      · simp only [Act.put, List.setIfInBounds_toArray, List.set, i64_w, i32_w]
        rfl
      refine one_ (i := 10) (N := none) #[vT,vT,vT,vT,vT,vT,vT,vT,vT,vT,vT] rfl rfl (by kernel_rfl) (by decide) (fun K hK => ?_)
      refine skip_ (w1 := ?_) (by rfl) rfl ?_ ?_
      rotate_left
      · go_simp
        rfl
      refine hK.out _ _ ⟨kS HEG1.out hHeld.1, kS HEG2.out hHeld.2⟩ (fun hHeld => ?_)
      clear hK K
      refine done_ (by kernel_rfl) ?_
      have hm2 := mb_upto HM.out HI.out.1 HI.out.2.1 HWR.out
      rw [HV.out] at hm2
      have HM2 := Aside0.mk hm2
      have HK2 := Aside0.mk (show ∀ k, k < g → (wr.setCell ⟨g, 3 + i, none⟩ (.int .u64 vx)).heap[k]? = wr.heap[k]? from fun k hk => Below.heap_setCell _ _ _ k (Nat.ne_of_lt hk))
      have HP2 := Aside0.mk (HP.out.step HK2.out)
      have HENV2 := Aside0.mk ((HK2.out _ HEG.out).trans HENV.out)
      have HL2 := Aside0.mk (HL.out.setCell (p := ⟨g, 3 + i, none⟩) (Nat.le_of_lt HEG.out) (.int .u64 vx))
      clear hHeld x2 xe c0_ e0_ HM HK2 HP HENV HL t1 t2 u1 u2 hm2
      have hi3 := HI.out.2.1
      go_wp2
      exact ⟨⟨i + 1, by go_num, by omega, by omega, HM2, ⟨HP2.out.step (fun _ _ => rfl)⟩, HENV2, ⟨below_drew1 HL2.out⟩⟩, by simp [intOf]; omega⟩
    · have HX := Aside0.mk (show 32 ≤ i ∨ lr.length ≤ i from by rw [NR.out]; omega)
      have y3 := blk_cell HENV.out 3
      have y4 := blk_cell HENV.out 4
      simp only [List.getElem?_toArray, List.getElem?_cons_zero, List.getElem?_cons_succ] at y3 y4
      have c4 : wr.cell? ⟨g, 4, none⟩ = some _ := HM.out.cell 4 (by omega)
      have c5 : wr.cell? ⟨g, 5, none⟩ = some _ := HM.out.cell 5 (by omega)
      have c13 : wr.cell? ⟨g, 13, none⟩ = some _ := HM.out.cell 13 (by omega)
      have c38 : wr.cell? ⟨g, 38, none⟩ = some _ := HM.out.cell 38 (by omega)
      have c39 : wr.cell? ⟨g, 39, none⟩ = some _ := HM.out.cell 39 (by omega)
      have e4 := HM.out.frozen 4
      have e5 := HM.out.frozen 5
      have e13 := HM.out.frozen 13
      have e38 := HM.out.frozen 38
      have e39 := HM.out.frozen 39
      have hm4 := mb_setr (mb_setr (mb_setr HM.out 1 (by omega) 412316860416#64 412316860416 rfl) 2 (by omega) 2147418112#64 2147418112 rfl) 10 (by omega) 65536#64 65536 rfl
      rw [entry_upto lr i HX.out] at hm4
      have HM4 := Aside0.mk (show MB 76 41 (((wr.setCell ⟨g, 4, none⟩ (.int .u64 412316860416)).setCell ⟨g, 5, none⟩ (.int .u64 2147418112)).setCell ⟨g, 13, none⟩ (.int .u64 65536)) g _ from hm4)
      have hk4 : ∀ k, k < g → ((((wr.setCell ⟨g, 4, none⟩ (.int .u64 412316860416)).setCell ⟨g, 5, none⟩ (.int .u64 2147418112)).setCell ⟨g, 13, none⟩ (.int .u64 65536))).heap[k]? = wr.heap[k]? := fun k hk => by
        have hne : k ≠ g := Nat.ne_of_lt hk
        exact (Below.heap_setCell _ _ _ k hne).trans ((Below.heap_setCell _ _ _ k hne).trans (Below.heap_setCell _ _ _ k hne))
      have HP4 := Aside0.mk (HP.out.step hk4)
      have hgw : w.heap.size ≤ g := Nat.le_of_lt HEG.out
      have HB4 := Aside0.mk (show Below w.heap.size w (((wr.setCell ⟨g, 4, none⟩ (.int .u64 412316860416)).setCell ⟨g, 5, none⟩ (.int .u64 2147418112)).setCell ⟨g, 13, none⟩ (.int .u64 65536)) from ((HL.out.setCell (p := ⟨g, 4, none⟩) hgw _).setCell (p := ⟨g, 5, none⟩) hgw _).setCell (p := ⟨g, 13, none⟩) hgw _)
      have y3b : ((((wr.setCell ⟨g, 4, none⟩ (.int .u64 412316860416)).setCell ⟨g, 5, none⟩ (.int .u64 2147418112)).setCell ⟨g, 13, none⟩ (.int .u64 65536))).cell? ⟨w.heap.size, 3, none⟩ = some (.slice sA nS sc) := (congrArg _ rfl : _ = _).trans ((blk_cell ((hk4 _ HEG.out).trans HENV.out) 3).trans (by simp))
      have y4b : ((((wr.setCell ⟨g, 4, none⟩ (.int .u64 412316860416)).setCell ⟨g, 5, none⟩ (.int .u64 2147418112)).setCell ⟨g, 13, none⟩ (.int .u64 65536))).cell? ⟨w.heap.size, 4, none⟩ = some (.int .i64 fr) := (congrArg _ rfl : _ = _).trans ((blk_cell ((hk4 _ HEG.out).trans HENV.out) 4).trans (by simp))
      clear hm4 hk4 hgw HM HP HL HENV
      by_cases h32 : i = 32
      · have s1 : decide ((i : Int) < 32) = false := decide_eq_false (by omega)
        have u1 : ((i : Int) < 32) = False := eq_false (by omega)
        clear hc h32 x2
        by_cases hneg : fr < 0
        · have hbig := hneg
          have t1 : decide (fr < 0) = true := decide_eq_true hneg
          have HO := Aside0.mk (outR_bad (lr := lr) (ls := ls) (fr := fr) HP4.out HCD.out HM4.out (.inl hneg) HBD.out)
          have HBF := Aside0.mk ((HB4.out.setCell (p := ⟨g, 38, none⟩) (Nat.le_of_lt HEG.out) (.bool true)).setCell (p := ⟨g, 39, none⟩) (Nat.le_of_lt HEG.out) (.int .i64 1))
          clear hneg hbig
          go_wp2_with fail
          go_ret
          exact ⟨g, _, _, rfl, HO.out, HBF.out⟩
        by_cases hbig : 1048576 < fr
        · have t1 : decide (fr < 0) = false := decide_eq_false hneg
          have t2 : decide (fr > 1048576) = true := decide_eq_true hbig
          have t3 : decide (1048576 < fr) = true := decide_eq_true hbig
          have HO := Aside0.mk (outR_bad (lr := lr) (ls := ls) (fr := fr) HP4.out HCD.out HM4.out (.inr hbig) HBD.out)
          have HBF := Aside0.mk ((HB4.out.setCell (p := ⟨g, 38, none⟩) (Nat.le_of_lt HEG.out) (.bool true)).setCell (p := ⟨g, 39, none⟩) (Nat.le_of_lt HEG.out) (.int .i64 1))
          clear hneg hbig
          go_wp2_with fail
          go_ret
          exact ⟨g, _, _, rfl, HO.out, HBF.out⟩
        · have t1 : decide (fr < 0) = false := decide_eq_false hneg
          have t2 : decide (fr > 1048576) = false := decide_eq_false hbig
          have t3 : decide (1048576 < fr) = false := decide_eq_false hbig
          have HNB := Aside0.mk (show ¬ bad fr from by unfold bad; omega)
          have HF := Aside0.mk (HS34.out (((wr.setCell ⟨g, 4, none⟩ (.int .u64 412316860416)).setCell ⟨g, 5, none⟩ (.int .u64 2147418112)).setCell ⟨g, 13, none⟩ (.int .u64 65536)) HB4.out (by omega) (by omega))
          clear hneg hbig HS34 c38 c39 e38 e39
          go_wp2_with fail
          refine HF.out.mono ?_
          rintro e W5 ⟨f, rfl, hf⟩
          obtain ⟨Af, nf, cf, ef⟩ : ∃ Af nf cf, f = .slice Af nf cf := by
            obtain ⟨A, c, e, _⟩ := hf.1
            exact ⟨A, _, c, e⟩
          subst ef
          have HO := Aside0.mk (outR_ok (lr := lr) (fr := fr) HP4.out HCD.out HM4.out HNB.out HBD.out HBS.out hf)
          have HBF := Aside0.mk ((below_step HB4.out hf.2.2).setCell (p := ⟨g, 2, none⟩) (Nat.le_of_lt HEG.out) (.slice Af nf cf))
          have c2 : W5.cell? ⟨g, 2, none⟩ = some (.slice none 0 0) := (HM4.out.below hf.2.2).cell 2 (by omega)
          have e2 := (HM4.out.below hf.2.2).frozen 2
          clear hf
          go_wp2_with fail
          go_ret
          exact ⟨g, _, _, rfl, HO.out, HBF.out⟩
      · have s1 : decide ((i : Int) < 32) = true := decide_eq_true (by omega)
        have s2 : decide ((i : Int) < (nR : Int)) = false := decide_eq_false (by omega)
        have u1 : ((i : Int) < 32) = True := eq_true (by omega)
        have u2 : ((i : Int) < (nR : Int)) = False := eq_false (by omega)
        clear hc h32
        by_cases hneg : fr < 0
        · have hbig := hneg
          have t1 : decide (fr < 0) = true := decide_eq_true hneg
          have HO := Aside0.mk (outR_bad (lr := lr) (ls := ls) (fr := fr) HP4.out HCD.out HM4.out (.inl hneg) HBD.out)
          have HBF := Aside0.mk ((HB4.out.setCell (p := ⟨g, 38, none⟩) (Nat.le_of_lt HEG.out) (.bool true)).setCell (p := ⟨g, 39, none⟩) (Nat.le_of_lt HEG.out) (.int .i64 1))
          clear hneg hbig
          go_wp2_with fail
          go_ret
          exact ⟨g, _, _, rfl, HO.out, HBF.out⟩
        by_cases hbig : 1048576 < fr
        · have t1 : decide (fr < 0) = false := decide_eq_false hneg
          have t2 : decide (fr > 1048576) = true := decide_eq_true hbig
          have t3 : decide (1048576 < fr) = true := decide_eq_true hbig
          have HO := Aside0.mk (outR_bad (lr := lr) (ls := ls) (fr := fr) HP4.out HCD.out HM4.out (.inr hbig) HBD.out)
          have HBF := Aside0.mk ((HB4.out.setCell (p := ⟨g, 38, none⟩) (Nat.le_of_lt HEG.out) (.bool true)).setCell (p := ⟨g, 39, none⟩) (Nat.le_of_lt HEG.out) (.int .i64 1))
          clear hneg hbig
          go_wp2_with fail
          go_ret
          exact ⟨g, _, _, rfl, HO.out, HBF.out⟩
        · have t1 : decide (fr < 0) = false := decide_eq_false hneg
          have t2 : decide (fr > 1048576) = false := decide_eq_false hbig
          have t3 : decide (1048576 < fr) = false := decide_eq_false hbig
          have HNB := Aside0.mk (show ¬ bad fr from by unfold bad; omega)
          have HF := Aside0.mk (HS34.out (((wr.setCell ⟨g, 4, none⟩ (.int .u64 412316860416)).setCell ⟨g, 5, none⟩ (.int .u64 2147418112)).setCell ⟨g, 13, none⟩ (.int .u64 65536)) HB4.out (by omega) (by omega))
          clear hneg hbig HS34 c38 c39 e38 e39
          go_wp2_with fail
          refine HF.out.mono ?_
          rintro e W5 ⟨f, rfl, hf⟩
          obtain ⟨Af, nf, cf, ef⟩ : ∃ Af nf cf, f = .slice Af nf cf := by
            obtain ⟨A, c, e, _⟩ := hf.1
            exact ⟨A, _, c, e⟩
          subst ef
          have HO := Aside0.mk (outR_ok (lr := lr) (fr := fr) HP4.out HCD.out HM4.out HNB.out HBD.out HBS.out hf)
          have HBF := Aside0.mk ((below_step HB4.out hf.2.2).setCell (p := ⟨g, 2, none⟩) (Nat.le_of_lt HEG.out) (.slice Af nf cf))
          have c2 : W5.cell? ⟨g, 2, none⟩ = some (.slice none 0 0) := (HM4.out.below hf.2.2).cell 2 (by omega)
          have e2 := (HM4.out.below hf.2.2).frozen 2
          clear hf
          go_wp2_with fail
          go_ret
          exact ⟨g, _, _, rfl, HO.out, HBF.out⟩
end Go.Proofs.YtcgkgaibomcheaaGreat.RNew
end

section
namespace Go.Proofs.YtcgkgaibomcheaaGreat.ROut
open Go.RowKit Bits Mac Mb Rd RDec EM RM EOut PRvemuRuns YtcgkgaibomcheaaGreatW.PrintWords YtcgkgaibomcheaaGreatW.PrintLast YtcgkgaibomcheaaGreatW.PrintMore
def rows (X : Nat → Int) (i : Nat) : List Int := (List.range i).map X
theorem rows_len (X : Nat → Int) (i : Nat) : (rows X i).length = i := by unfold rows; rw [List.length_map, List.length_range]
theorem rows_succ (X : Nat → Int) (i : Nat) : rows X (i + 1) = rows X i ++ [X i] := by unfold rows; rw [List.range_succ, List.map_append]; rfl
set_option maxRecDepth 20000 in
set_option maxHeartbeats 2000000 in
theorem outcome (g : Nat) (m : Mac) (c d f : Value) (At : Option Addr) (T ct : Nat) (w : World) (h : MB 76 41 w g (vals m c d f (.slice At T ct) undef)) :
    Calls Tryz.prog 22 #[.pointer (some ⟨g, 0, none⟩)] w fun e w' => ∃ vr : Value, e = .returned (.agg #[.int .i64 m.err, .int .i64 (atOf m), .int .i64 m.steps, vr, .slice At T ct]) ∧ Kd.R (Kd.int .u64) 52 w' w.heap.size (fun _ => True) vr (regsOf m) ∧ Below w.heap.size w w' := by
  have hbz := below_alloc (Below.refl w.heap.size w) (.cells #[.int .i64 0, .int .i64 0, .int .i64 0, .slice none 0 0, .slice none 0 0] 31)
  have HH := Aside0.mk (h.below hbz)
  have HOW := Aside0.mk (blk_new w (.cells #[.int .i64 0, .int .i64 0, .int .i64 0, .slice none 0 0, .slice none 0 0] 31))
  have HG := Aside0.mk h.lt
  have HB := Aside0.mk hbz
  clear h hbz
  have HSZ := Aside0.mk (show w.heap.size < (w.alloc (.cells #[.int .i64 0, .int .i64 0, .int .i64 0, .slice none 0 0, .slice none 0 0] 31)).heap.size from by rw [World.size_alloc]; omega)
  obtain ⟨W0, hW0⟩ : ∃ W0, w.alloc (.cells #[.int .i64 0, .int .i64 0, .int .i64 0, .slice none 0 0, .slice none 0 0] 31) = W0 := ⟨_, rfl⟩
  rw [hW0] at HH HOW HB HSZ
  have HW0 := Aside0.mk hW0
  clear hW0
  have x39 : W0.cell? ⟨g, 39, none⟩ = some (.int .i64 m.err) := HH.out.cell 39 (by omega)
  have x37 : W0.cell? ⟨g, 37, none⟩ = some (.int .i64 m.steps) := HH.out.cell 37 (by omega)
  have x40 : W0.cell? ⟨g, 40, none⟩ = some (.slice At T ct) := HH.out.cell 40 (by omega)
  have HGP := Aside0.mk (show ∀ pb : Nat, W0.heap.size ≤ pb → g ≠ pb from fun pb hp => by have := HG.out; have := HSZ.out; omega)
  have HPL := Aside0.mk (fun (W1 : World) (hb : Below W0.heap.size W0 W1) => Ends.place_ref g _ m.pc W1 (HH.out.below hb) rfl)
  have hat : atOf m = if m.err = 0 then 0 else Ends.place m.pc := rfl
  have HAT := Aside0.mk (show (m.err = 0 → atOf m = 0) ∧ (m.err ≠ 0 → atOf m = Ends.place m.pc) from ⟨fun h => hat.trans (if_pos h), fun h => hat.trans (if_neg h)⟩)
  clear hat
  generalize atOf m = at_ at *
  generalize Ends.place m.pc = pl at *
  obtain ⟨X, hX⟩ : ∃ X : Nat → Int, X = fun i => U (m.x i) := ⟨_, rfl⟩
  have hrg : regsOf m = rows X 32 := by rw [hX]; rfl
  have HMXW := Aside0.mk (show ∀ i, i < 32 → ∀ W1, Below W0.heap.size W0 W1 → W1.cell? ⟨g, 3 + i, none⟩ = some (.int .u64 (X i)) from fun i hi W1 hb => by
    rw [hX]
    exact ((HH.out.below hb).cell (3 + i) (by omega)).trans (congrArg some (vals_x _ _ _ _ _ _ _ hi)))
  rw [hrg]
  clear hrg hX
  have L := below_drew1 (Below.refl W0.heap.size W0)
  generalize m.err = er at *
  generalize m.steps = st at *
  clear HH
  go_enter Tryz.func22, Tryz.ntmps22
  go_wp2_with fail
  rw [HW0.out]
  clear HW0
  refine start_ (n := 15) (S := fun w' => w'.cell? ⟨g, 39, none⟩ = some (.int .i64 er) ∧ w'.cell? ⟨g, 37, none⟩ = some (.int .i64 st) ∧ w'.cell? ⟨g, 40, none⟩ = some (.slice At T ct)) (ds := []) #[vF,vF,vF,vF,vF,vF,vF,vF,vF,vF,vF,vF,vF,vF,vF] (by kernel_rfl) rfl rfl ⟨kB L x39, kB L x37, kB L x40⟩ (fun hHeld => ?_)
  refine pure_ (i := 0) (N := some 5) (v := ?_) (a' := ?_) #[vT,vF,vF,vF,vF,vF,vF,vF,vF,vF,vF,vF,vF,vF,vF] rfl rfl (by kernel_rfl) (fun _ _ _ h => h) (Or.inl ⟨by rfl, ?_⟩) ?_ ?_
  rotate_left
  · intro w'; go_simp; with_reducible rfl
  rotate_left
  · simp only [Act.put, List.setIfInBounds_toArray, List.set, i64_w, i32_w]
    rfl
  refine pure_ (i := 1) (N := some 6) (v := ?_) (a' := ?_) #[vT,vT,vF,vF,vF,vF,vF,vF,vF,vF,vF,vF,vF,vF,vF] rfl rfl (by kernel_rfl) (fun _ _ _ h => h) (Or.inl ⟨by rfl, ?_⟩) ?_ ?_
  rotate_left
  · intro w'; go_simp; with_reducible rfl
  rotate_left
  · simp only [Act.put, List.setIfInBounds_toArray, List.set, i64_w, i32_w]
    rfl
  refine pure_ (i := 2) (N := some 7) (v := ?_) (a' := ?_) #[vT,vT,vT,vF,vF,vF,vF,vF,vF,vF,vF,vF,vF,vF,vF] rfl rfl (by kernel_rfl) (fun _ _ _ h => h) (Or.inl ⟨by rfl, ?_⟩) ?_ ?_
  rotate_left
  · intro w'; go_simp; with_reducible rfl
  rotate_left
  · simp only [Act.put, List.setIfInBounds_toArray, List.set, i64_w, i32_w]
    rfl
  refine pure_ (i := 4) (N := some 9) (v := ?_) (a' := ?_) #[vT,vT,vT,vF,vT,vF,vF,vF,vF,vF,vF,vF,vF,vF,vF] rfl rfl (by kernel_rfl) (fun _ _ _ h => h) (Or.inl ⟨by rfl, ?_⟩) ?_ ?_
  rotate_left
  · intro w'; go_simp; with_reducible rfl
  rotate_left
  · simp only [Act.put, List.setIfInBounds_toArray, List.set, i64_w, i32_w]
    rfl
  refine pure_ (i := 5) (N := some 10) (v := ?_) (a' := ?_) #[vT,vT,vT,vF,vT,vT,vF,vF,vF,vF,vF,vF,vF,vF,vF] rfl rfl (by kernel_rfl) (fun _ _ _ h => h) (Or.inl ⟨by rfl, ?_⟩) ?_ ?_
  rotate_left
  · intro w'; go_simp; with_reducible rfl
  rotate_left
  · simp only [Act.put, List.setIfInBounds_toArray, List.set, i64_w, i32_w]
    rfl
  refine pure_ (i := 6) (N := some 11) (v := ?_) (a' := ?_) #[vT,vT,vT,vF,vT,vT,vT,vF,vF,vF,vF,vF,vF,vF,vF] rfl rfl (by kernel_rfl) (fun _ _ _ h => h) (Or.inl ⟨by rfl, ?_⟩) ?_ ?_
  rotate_left
  · intro w'; go_simp; with_reducible rfl
  rotate_left
  · simp only [Act.put, List.setIfInBounds_toArray, List.set, i64_w, i32_w]
    rfl
  refine pure_ (i := 8) (N := some 13) (v := ?_) (a' := ?_) #[vT,vT,vT,vF,vT,vT,vT,vF,vT,vF,vF,vF,vF,vF,vF] rfl rfl (by kernel_rfl) (fun _ _ _ h => h) (Or.inl ⟨by rfl, ?_⟩) ?_ ?_
  rotate_left
  · intro w'; go_simp; with_reducible rfl
  rotate_left
  · simp only [Act.put, List.setIfInBounds_toArray, List.set, i64_w, i32_w]
    rfl
  refine pure_ (i := 9) (N := some 14) (v := ?_) (a' := ?_) #[vT,vT,vT,vF,vT,vT,vT,vF,vT,vT,vF,vF,vF,vF,vF] rfl rfl (by kernel_rfl) (fun _ _ _ h => h) (Or.inl ⟨by rfl, ?_⟩) ?_ ?_
  rotate_left
  · intro w'; go_simp; with_reducible rfl
  rotate_left
  · simp only [Act.put, List.setIfInBounds_toArray, List.set, i64_w, i32_w]
    rfl
  refine pure_ (i := 10) (N := some 15) (v := ?_) (a' := ?_) #[vT,vT,vT,vF,vT,vT,vT,vF,vT,vT,vT,vF,vF,vF,vF] rfl rfl (by kernel_rfl) (fun _ _ _ h => h) (Or.inl ⟨by rfl, ?_⟩) ?_ ?_
  rotate_left
  · intro w'; go_simp; with_reducible rfl
  rotate_left
  · simp only [Act.put, List.setIfInBounds_toArray, List.set, i64_w, i32_w]
    rfl
  refine take_ (i := 3) (N := some 8) (v := ?_) (a' := ?_) #[vT,vT,vT,vT,vT,vT,vT,vF,vT,vT,vT,vF,vF,vF,vF] rfl rfl (by kernel_rfl) (fun _ _ _ h => h) (Or.inl ⟨by rfl, ?_⟩) hHeld ?_ ?_
  rotate_left
  · rintro w' ⟨s0, s1, s2⟩; go_simp; with_reducible rfl
  rotate_left
  · simp only [Act.put, List.setIfInBounds_toArray, List.set, i64_w, i32_w]
    rfl
  refine take_ (i := 7) (N := some 12) (v := ?_) (a' := ?_) #[vT,vT,vT,vT,vT,vT,vT,vT,vT,vT,vT,vF,vF,vF,vF] rfl rfl (by kernel_rfl) (fun _ _ _ h => h) (Or.inl ⟨by rfl, ?_⟩) hHeld ?_ ?_
  rotate_left
  · rintro w' ⟨s0, s1, s2⟩; go_simp; with_reducible rfl
  rotate_left
  · simp only [Act.put, List.setIfInBounds_toArray, List.set, i64_w, i32_w]
    rfl
  refine take_ (i := 11) (N := some 16) (v := ?_) (a' := ?_) #[vT,vT,vT,vT,vT,vT,vT,vT,vT,vT,vT,vT,vF,vF,vF] rfl rfl (by kernel_rfl) (fun _ _ _ h => h) (Or.inl ⟨by rfl, ?_⟩) hHeld ?_ ?_
  rotate_left
  · rintro w' ⟨s0, s1, s2⟩; go_simp; with_reducible rfl
  rotate_left
  · simp only [Act.put, List.setIfInBounds_toArray, List.set, i64_w, i32_w]
    rfl
  refine pure_ (i := 12) (N := some 17) (v := ?_) (a' := ?_) #[vT,vT,vT,vT,vT,vT,vT,vT,vT,vT,vT,vT,vT,vF,vF] rfl rfl (by kernel_rfl) (fun _ _ _ h => h) (Or.inl ⟨by rfl, ?_⟩) ?_ ?_
  rotate_left
  · intro w'; go_simp; with_reducible rfl
  rotate_left
  · simp only [Act.put, List.setIfInBounds_toArray, List.set, i64_w, i32_w]
    rfl
  refine one_ (i := 13) (N := some 3) #[vT,vT,vT,vT,vT,vT,vT,vT,vT,vT,vT,vT,vT,vT,vF] rfl rfl (by kernel_rfl) (by decide) (fun K hK => ?_)
  refine value_ (w1 := ?_) (v := ?_) (by rfl) rfl ?_ ?_
  rotate_left 2
  · go_simp
    constructor
    · rfl
    · rfl
  have hle := below_size L
  have ha := Aside0.mk (show (W0.alloc (.cells #[.int .i64 0, .int .i64 0, .int .i64 0, .slice none 0 0, .slice none 0 0] 31)).drew.heap[W0.heap.size]? = some (.cells #[.int .i64 0, .int .i64 0, .int .i64 0, .slice none 0 0, .slice none 0 0] 31 (0, 0)) from blk_new W0 _)
  have L : Below W0.heap.size W0 (W0.alloc (.cells #[.int .i64 0, .int .i64 0, .int .i64 0, .slice none 0 0, .slice none 0 0] 31)).drew := below_drew1 (below_alloc (Below.refl _ _) _)
  obtain ⟨w11, hw11⟩ : ∃ w11, (W0.alloc (.cells #[.int .i64 0, .int .i64 0, .int .i64 0, .slice none 0 0, .slice none 0 0] 31)).drew = w11 := ⟨_, rfl⟩
  have ha := ha.out
  rw [hw11] at ha L
  have ha := Aside0.mk ha
  have hle := Nat.le_refl W0.heap.size
  refine NewE.swapw (W := w11) hw11.symm ?_
  refine hK.out _ _ ⟨kB L x39, kB L x37, kB L x40⟩ (fun hHeld => ?_)
  clear hK K
  refine norm_ (a' := ?_) ?_ ?_
  rotate_left
  · show Act.put _ (some 3) _ = _; simp only [Act.put, List.setIfInBounds_toArray, List.set, i64_w, i32_w]; rfl
  refine one_ (i := 14) (N := none) #[vT,vT,vT,vT,vT,vT,vT,vT,vT,vT,vT,vT,vT,vT,vT] rfl rfl (by kernel_rfl) (by decide) (fun K hK => ?_)
  have z0 := blk_cell ha.out 0
  have z1 := blk_cell ha.out 1
  have z2 := blk_cell ha.out 2
  have z3 := blk_cell ha.out 3
  have z4 := blk_cell ha.out 4
  simp only [List.getElem?_toArray, List.getElem?_cons_zero, List.getElem?_cons_succ] at z0 z1 z2 z3 z4
  have f0_ := blk_frozen ha.out 0
  have f1_ := blk_frozen ha.out 1
  have f2_ := blk_frozen ha.out 2
  have f3_ := blk_frozen ha.out 3
  have f4_ := blk_frozen ha.out 4
  refine skip_ (w1 := ?_) (by rfl) rfl ?_ ?_
  rotate_left
  · go_simp
    rfl
  refine hK.out _ _ ⟨kS5 (HGP.out _ hle) hHeld.1, kS5 (HGP.out _ hle) hHeld.2.1, kS5 (HGP.out _ hle) hHeld.2.2⟩ (fun hHeld => ?_)
  clear hK K
  refine done_ (by kernel_rfl) ?_
  change Exit.then _ _ _ _ (put5 w11 W0.heap.size (.int .i64 er) (.int .i64 0) (.int .i64 st) (.slice none 0 0) (.slice At T ct))
  have y39 : (put5 w11 W0.heap.size (.int .i64 er) (.int .i64 0) (.int .i64 st) (.slice none 0 0) (.slice At T ct)).cell? ⟨g, 39, none⟩ = some (.int .i64 er) := by unfold put5; exact hHeld.1
  have HA := Aside0.mk (put5_block ha.out (.int .i64 er) (.int .i64 0) (.int .i64 st) (.slice none 0 0) (.slice At T ct))
  have HLW := Aside0.mk (put5_below (.int .i64 er) (.int .i64 0) (.int .i64 st) (.slice none 0 0) (.slice At T ct) L (Nat.le_refl _))
  clear hHeld ha hle z0 z1 z2 z3 z4 f0_ f1_ f2_ f3_ f4_ x39 x37 x40 HGP L hw11
  generalize (put5 w11 W0.heap.size (.int .i64 er) (.int .i64 0) (.int .i64 st) (.slice none 0 0) (.slice At T ct)) = W12 at *
  by_cases he : er = 0
  · subst he
    have HE := HAT.out.1 rfl
    clear HAT HPL
    subst HE
    go_wp2_with fail
    clear y39
    go_loopw [4] (fun v4 W => ∃ (i : Nat) (Ar : Option Addr) (cr : Nat), v4 = .int .i64 (i : Int) ∧ i ≤ 32 ∧ Aside0 (W.heap[W0.heap.size]? = some (.cells #[(.int .i64 0), (.int .i64 0), .int .i64 st, .slice Ar i cr, .slice At T ct] 31 (0, 0))) ∧ Aside0 (Kd.R (Kd.int .u64) 52 W W0.heap.size (fun _ => True) (.slice Ar i cr) (rows X i)) ∧ Aside0 (Below W0.heap.size W0 W)) (fun v4 _ => 32 - (intOf v4).toNat)
    case atStart => exact ⟨0, none, 0, rfl, by omega, HA, ⟨Kd.R_nil _ _ _ _ _⟩, HLW⟩
    case round =>
      clear HA HLW
      obtain ⟨i, Ar, cr, rfl, hi, HA, HR, HBW⟩ := hrel
      by_cases hlt : i < 32
      · have t1 : decide ((i : Int) < 32) = true := decide_eq_true (by omega)
        have u1 : ((i : Int) < 32) = True := eq_true (by omega)
        have x3 := blk_cell HA.out 3
        simp only [List.getElem?_toArray, List.getElem?_cons_zero, List.getElem?_cons_succ] at x3
        have xg := HMXW.out i hlt wr HBW.out
        have HMX := Aside0.mk (HMXW.out i hlt)
        have HI := Aside0.mk hlt
        have HSI := Aside0.mk (show W0.heap.size ≤ wr.drew.heap.size from HBW.out.size)
        have HLN := Aside0.mk (show ((rows X i).length + 1) * 8 ≤ 140737488355328 from by rw [rows_len]; omega)
        have HPB2 := Aside0.mk (show ∀ w39, wr.drew.grownBy w39 (Value.slice Ar i cr).ownBlock → w39.cell? ⟨W0.heap.size, 3, none⟩ = some (.slice Ar i cr) ∧ w39.frozen? ⟨W0.heap.size, 3, none⟩ = false ∧ w39.heap[W0.heap.size]? = some (.cells #[(.int .i64 0), (.int .i64 0), .int .i64 st, .slice Ar i cr, .slice At T ct] 31 (0, 0)) from fun w39 hg => by
          have hne : some W0.heap.size ≠ (Value.slice Ar i cr).ownBlock := fun e => by
            obtain ⟨cs, hcs⟩ := Kd.R_typed HR.out _ e.symm
            rw [HA.out] at hcs
            injection hcs with hcs
            injection hcs with _ h2
            exact absurd h2 (by decide)
          have hx := blk_grown (w := wr.drew) HA.out hg hne
          exact ⟨(blk_cell hx 3).trans (by simp), blk_frozen hx 3, hx⟩)
        clear hlt
        go_wp2_with fail
        refine start_ (n := 12) (S := fun w' => w'.cell? ⟨W0.heap.size, 3, none⟩ = some (.slice Ar i cr) ∧ w'.cell? ⟨g, 3 + i, none⟩ = some (.int .u64 (X i))) (ds := [11]) #[vF,vF,vF,vF,vF,vF,vF,vF,vF,vF,vF,vF] (by kernel_rfl) rfl rfl ⟨x3, xg⟩ (fun hHeld => ?_)
        refine pure_ (i := 0) (N := some 30) (v := ?_) (a' := ?_) #[vT,vF,vF,vF,vF,vF,vF,vF,vF,vF,vF,vF] rfl rfl (by kernel_rfl) (fun _ _ _ h => h) (Or.inl ⟨by rfl, ?_⟩) ?_ ?_
        rotate_left
        · intro w'; go_simp; with_reducible rfl
        rotate_left
        · simp only [Act.put, List.setIfInBounds_toArray, List.set, i64_w, i32_w]
          rfl
        refine pure_ (i := 2) (N := some 32) (v := ?_) (a' := ?_) #[vT,vF,vT,vF,vF,vF,vF,vF,vF,vF,vF,vF] rfl rfl (by kernel_rfl) (fun _ _ _ h => h) (Or.inl ⟨by rfl, ?_⟩) ?_ ?_
        rotate_left
        · intro w'; go_simp; with_reducible rfl
        rotate_left
        · simp only [Act.put, List.setIfInBounds_toArray, List.set, i64_w, i32_w]
          rfl
        refine pure_ (i := 3) (N := some 33) (v := ?_) (a' := ?_) #[vT,vF,vT,vT,vF,vF,vF,vF,vF,vF,vF,vF] rfl rfl (by kernel_rfl) (fun _ _ _ h => h) (Or.inl ⟨by rfl, ?_⟩) ?_ ?_
        rotate_left
        · intro w'; go_simp; with_reducible rfl
        rotate_left
        · simp only [Act.put, List.setIfInBounds_toArray, List.set, i64_w, i32_w]
          rfl
        refine pure_ (i := 4) (N := some 34) (v := ?_) (a' := ?_) #[vT,vF,vT,vT,vT,vF,vF,vF,vF,vF,vF,vF] rfl rfl (by kernel_rfl) (fun _ _ _ h => h) (Or.inl ⟨by rfl, ?_⟩) ?_ ?_
        rotate_left
        · intro w'; go_simp; with_reducible rfl
        rotate_left
        · simp only [Act.put, List.setIfInBounds_toArray, List.set, i64_w, i32_w]
          rfl
        refine pure_ (i := 5) (N := some 35) (v := ?_) (a' := ?_) #[vT,vF,vT,vT,vT,vT,vF,vF,vF,vF,vF,vF] rfl rfl (by kernel_rfl) (fun _ _ _ h => h) (Or.inl ⟨by rfl, ?_⟩) ?_ ?_
        rotate_left
        · intro w'; go_simp; with_reducible rfl
        rotate_left
        · simp only [Act.put, List.setIfInBounds_toArray, List.set, i64_w, i32_w]
          rfl
        refine pure_ (i := 6) (N := some 36) (v := ?_) (a' := ?_) #[vT,vF,vT,vT,vT,vT,vT,vF,vF,vF,vF,vF] rfl rfl (by kernel_rfl) (fun _ _ _ h => h) (Or.inl ⟨by rfl, ?_⟩) ?_ ?_
        rotate_left
        · intro w'; go_simp; with_reducible rfl
        rotate_left
        · simp only [Act.put, List.setIfInBounds_toArray, List.set, i64_w, i32_w]
          rfl
        refine take_ (i := 1) (N := some 31) (v := ?_) (a' := ?_) #[vT,vT,vT,vT,vT,vT,vT,vF,vF,vF,vF,vF] rfl rfl (by kernel_rfl) (fun _ _ _ h => h) (Or.inl ⟨by rfl, ?_⟩) hHeld ?_ ?_
        rotate_left
        · rintro w' ⟨s0, s1⟩; go_simp; with_reducible rfl
        rotate_left
        · simp only [Act.put, List.setIfInBounds_toArray, List.set, i64_w, i32_w]
          rfl
        refine take_ (i := 7) (N := some 37) (v := ?_) (a' := ?_) #[vT,vT,vT,vT,vT,vT,vT,vT,vF,vF,vF,vF] rfl rfl (by kernel_rfl) (fun _ _ _ h => h) (Or.inl ⟨by rfl, ?_⟩) hHeld ?_ ?_
        rotate_left
        · rintro w' ⟨s0, s1⟩; go_simp; with_reducible rfl
        rotate_left
        · simp only [Act.put, List.setIfInBounds_toArray, List.set, i64_w, i32_w]
          rfl
        refine one_ (i := 8) (N := some 38) #[vT,vT,vT,vT,vT,vT,vT,vT,vT,vF,vF,vF] rfl rfl (by kernel_rfl) (by decide) (fun K hK => ?_)
        refine value_ (w1 := ?_) (v := ?_) (by rfl) rfl ?_ ?_
        rotate_left 2
        · go_simp
          constructor
          · rfl
          · rfl
        have L8 := below_alloc (Below.refl wr.drew.heap.size wr.drew) (.cells #[.int .u64 (X i)] 52)
        refine hK.out _ _ ⟨kB L8 hHeld.1, kB L8 hHeld.2⟩ (fun hHeld => ?_)
        clear hK K
        refine norm_ (a' := ?_) ?_ ?_
        rotate_left
        · show Act.put _ (some 38) _ = _; simp only [Act.put, List.setIfInBounds_toArray, List.set, i64_w, i32_w]; rfl
        refine one_ (i := 9) (N := some 39) #[vT,vT,vT,vT,vT,vT,vT,vT,vT,vT,vF,vF] rfl rfl (by kernel_rfl) (by decide) (fun K hK => ?_)
        refine Kd.R_append_step (Kd.int .u64) (w0 := W0) W0.heap.size (by rfl) (.tmp 31) (.tmp 38) 23 52 (.int .u64 0) 8 rfl Tryz.underlying23 Clone.inf52 rfl (by decide) (by omega) (.slice Ar i cr) (rows X i) (X i) [.int .u64 (X i)] (fun _ => True) (fun _ => False) rfl rfl rfl (fun _ h => h.elim) (fun _ _ => trivial) (Kd.R_drew HR.out) (below_drew1 HBW.out) HSI.out HLN.out ?_
        intro v39 w39 ho39 hb39 hg39 hat39
        rw [← rows_succ] at ho39
        obtain ⟨A39, c39, e39⟩ := Kd.R_slice ho39
        rw [rows_len] at e39
        subst e39
        have HO39 := Aside0.mk ho39
        have HB39 := Aside0.mk hb39
        have HG39 := Aside0.mk hg39
        clear ho39 hb39 hg39 hat39
        have hpb := HPB2.out w39 HG39.out
        refine hK.out _ _ ⟨hpb.1, HMX.out w39 HB39.out⟩ (fun hHeld => ?_)
        clear hK K
        refine norm_ (a' := ?_) ?_ ?_
        rotate_left
        · show Act.put _ (some 39) _ = _; simp only [Act.put, List.setIfInBounds_toArray, List.set, i64_w, i32_w]; rfl
        refine pure_ (i := 10) (N := some 40) (v := ?_) (a' := ?_) #[vT,vT,vT,vT,vT,vT,vT,vT,vT,vT,vT,vF] rfl rfl (by kernel_rfl) (fun _ _ _ h => h) (Or.inl ⟨by rfl, ?_⟩) ?_ ?_
        rotate_left
        · intro w'; go_simp; with_reducible rfl
        rotate_left
        · simp only [Act.put, List.setIfInBounds_toArray, List.set, i64_w, i32_w]
          rfl
        refine last_ (i := 11) (N := none) #[vT,vT,vT,vT,vT,vT,vT,vT,vT,vT,vT,vT] rfl rfl (by kernel_rfl) (by decide) (fun K hK => ?_)
        have z3 := hpb.1
        have f3 := hpb.2.1
        refine skip_ (w1 := ?_) (by rfl) rfl ?_ ?_
        rotate_left
        · go_simp
          rfl
        refine hK.out _ _ ?_
        clear hK K
        refine done_ (by kernel_rfl) ?_
        have HA2 := Aside0.mk (blk_put (cs' := #[(.int .i64 0), (.int .i64 0), .int .i64 st, .slice A39 (i + 1) c39, .slice At T ct]) hpb.2.2 3 (.slice A39 (i + 1) c39) rfl)
        have HR2 := Aside0.mk (Kd.R_set HO39.out hpb.2.2 (by decide) 3 (.slice A39 (i + 1) c39))
        have HBW2 := Aside0.mk (HB39.out.setCell (p := ⟨W0.heap.size, 3, none⟩) (Nat.le_refl _) (.slice A39 (i + 1) c39))
        have hi3 := HI.out
        clear hpb z3 f3 x3 xg HA HR HBW HO39 HB39 HG39 HPB2 HMX t1 u1 L8
        go_wp2
        exact ⟨⟨i + 1, A39, c39, by go_num, by omega, HA2, HR2, HBW2⟩, by simp [intOf]; omega⟩
      · obtain rfl : i = 32 := by omega
        have HOW2 := Aside0.mk (blk_below HOW.out HBW.out)
        have o0_ := blk_cell HOW2.out 0
        have o1_ := blk_cell HOW2.out 1
        have o2_ := blk_cell HOW2.out 2
        have o3_ := blk_cell HOW2.out 3
        have o4_ := blk_cell HOW2.out 4
        have of0_ := blk_frozen HOW2.out 0
        have of1_ := blk_frozen HOW2.out 1
        have of2_ := blk_frozen HOW2.out 2
        have of3_ := blk_frozen HOW2.out 3
        have of4_ := blk_frozen HOW2.out 4
        have a0_ := blk_cell HA.out 0
        have a1_ := blk_cell HA.out 1
        have a2_ := blk_cell HA.out 2
        have a3_ := blk_cell HA.out 3
        have a4_ := blk_cell HA.out 4
        simp only [List.getElem?_toArray, List.getElem?_cons_zero, List.getElem?_cons_succ] at o0_ o1_ o2_ o3_ o4_ a0_ a1_ a2_ a3_ a4_
        go_wp2_with fail
        have hp := put5_block HOW2.out (.int .i64 0) (.int .i64 0) (.int .i64 st) (.slice Ar 32 cr) (.slice At T ct)
        have hq1 := Kd.R_lower (R_put5 HR.out HOW2.out (by decide) (.int .i64 0) (.int .i64 0) (.int .i64 st) (.slice Ar 32 cr) (.slice At T ct)) HB.out.size
        have hq3 := put5_below (.int .i64 0) (.int .i64 0) (.int .i64 st) (.slice Ar 32 cr) (.slice At T ct) (below_step HB.out HBW.out) (Nat.le_refl w.heap.size)
        unfold put5 at hp hq1 hq3
        refine bodyPost_ret (results_c (fn := Tryz.f22) (p := 2) (ty := 31) rfl _ _ w.heap.size 31 #[(.int .i64 0), (.int .i64 0), .int .i64 st, .slice Ar 32 cr, .slice At T ct] (0, 0) _ rfl hp Tryz.underlying31 rfl (by kernel_rfl)) rfl ?_
        exact ⟨_, rfl, hq1, hq3⟩
  · have q1 : (er != 0) = true := bne_iff_ne.2 he
    have q2 : (er == 0) = false := beq_eq_false_iff_ne.2 he
    have HE := (HAT.out.2 he).symm
    clear HAT he
    subst HE
    go_wp2_with fail
    refine (HPL.out _ HLW.out).mono ?_
    rintro e w13 ⟨rfl, hw13⟩
    subst hw13
    have HA2 := Aside0.mk (blk_put (cs' := #[.int .i64 er, .int .i64 pl, .int .i64 st, (.slice none 0 0), (.slice At T ct)]) HA.out 1 (.int .i64 pl) rfl)
    have HLW2 := Aside0.mk (HLW.out.setCell (p := ⟨W0.heap.size, 1, none⟩) (Nat.le_refl _) (.int .i64 pl))
    have a1_ := blk_cell HA.out 1
    have af1_ := blk_frozen HA.out 1
    simp only [List.getElem?_toArray, List.getElem?_cons_zero, List.getElem?_cons_succ] at a1_
    clear HA HLW HPL
    have HA := Aside0.mk HA2.out
    have HLW := Aside0.mk HLW2.out
    clear HA2 HLW2
    go_wp2_with fail
    clear y39
    go_loopw [4] (fun v4 W => ∃ (i : Nat) (Ar : Option Addr) (cr : Nat), v4 = .int .i64 (i : Int) ∧ i ≤ 32 ∧ Aside0 (W.heap[W0.heap.size]? = some (.cells #[(.int .i64 er), (.int .i64 pl), .int .i64 st, .slice Ar i cr, .slice At T ct] 31 (0, 0))) ∧ Aside0 (Kd.R (Kd.int .u64) 52 W W0.heap.size (fun _ => True) (.slice Ar i cr) (rows X i)) ∧ Aside0 (Below W0.heap.size W0 W)) (fun v4 _ => 32 - (intOf v4).toNat)
    case atStart => exact ⟨0, none, 0, rfl, by omega, HA, ⟨Kd.R_nil _ _ _ _ _⟩, HLW⟩
    case round =>
      clear HA HLW
      obtain ⟨i, Ar, cr, rfl, hi, HA, HR, HBW⟩ := hrel
      by_cases hlt : i < 32
      · have t1 : decide ((i : Int) < 32) = true := decide_eq_true (by omega)
        have u1 : ((i : Int) < 32) = True := eq_true (by omega)
        have x3 := blk_cell HA.out 3
        simp only [List.getElem?_toArray, List.getElem?_cons_zero, List.getElem?_cons_succ] at x3
        have xg := HMXW.out i hlt wr HBW.out
        have HMX := Aside0.mk (HMXW.out i hlt)
        have HI := Aside0.mk hlt
        have HSI := Aside0.mk (show W0.heap.size ≤ wr.drew.heap.size from HBW.out.size)
        have HLN := Aside0.mk (show ((rows X i).length + 1) * 8 ≤ 140737488355328 from by rw [rows_len]; omega)
        have HPB2 := Aside0.mk (show ∀ w39, wr.drew.grownBy w39 (Value.slice Ar i cr).ownBlock → w39.cell? ⟨W0.heap.size, 3, none⟩ = some (.slice Ar i cr) ∧ w39.frozen? ⟨W0.heap.size, 3, none⟩ = false ∧ w39.heap[W0.heap.size]? = some (.cells #[(.int .i64 er), (.int .i64 pl), .int .i64 st, .slice Ar i cr, .slice At T ct] 31 (0, 0)) from fun w39 hg => by
          have hne : some W0.heap.size ≠ (Value.slice Ar i cr).ownBlock := fun e => by
            obtain ⟨cs, hcs⟩ := Kd.R_typed HR.out _ e.symm
            rw [HA.out] at hcs
            injection hcs with hcs
            injection hcs with _ h2
            exact absurd h2 (by decide)
          have hx := blk_grown (w := wr.drew) HA.out hg hne
          exact ⟨(blk_cell hx 3).trans (by simp), blk_frozen hx 3, hx⟩)
        clear hlt
        go_wp2_with fail
        refine start_ (n := 12) (S := fun w' => w'.cell? ⟨W0.heap.size, 3, none⟩ = some (.slice Ar i cr) ∧ w'.cell? ⟨g, 3 + i, none⟩ = some (.int .u64 (X i))) (ds := [11]) #[vF,vF,vF,vF,vF,vF,vF,vF,vF,vF,vF,vF] (by kernel_rfl) rfl rfl ⟨x3, xg⟩ (fun hHeld => ?_)
        refine pure_ (i := 0) (N := some 30) (v := ?_) (a' := ?_) #[vT,vF,vF,vF,vF,vF,vF,vF,vF,vF,vF,vF] rfl rfl (by kernel_rfl) (fun _ _ _ h => h) (Or.inl ⟨by rfl, ?_⟩) ?_ ?_
        rotate_left
        · intro w'; go_simp; with_reducible rfl
        rotate_left
        · simp only [Act.put, List.setIfInBounds_toArray, List.set, i64_w, i32_w]
          rfl
        refine pure_ (i := 2) (N := some 32) (v := ?_) (a' := ?_) #[vT,vF,vT,vF,vF,vF,vF,vF,vF,vF,vF,vF] rfl rfl (by kernel_rfl) (fun _ _ _ h => h) (Or.inl ⟨by rfl, ?_⟩) ?_ ?_
        rotate_left
        · intro w'; go_simp; with_reducible rfl
        rotate_left
        · simp only [Act.put, List.setIfInBounds_toArray, List.set, i64_w, i32_w]
          rfl
        refine pure_ (i := 3) (N := some 33) (v := ?_) (a' := ?_) #[vT,vF,vT,vT,vF,vF,vF,vF,vF,vF,vF,vF] rfl rfl (by kernel_rfl) (fun _ _ _ h => h) (Or.inl ⟨by rfl, ?_⟩) ?_ ?_
        rotate_left
        · intro w'; go_simp; with_reducible rfl
        rotate_left
        · simp only [Act.put, List.setIfInBounds_toArray, List.set, i64_w, i32_w]
          rfl
        refine pure_ (i := 4) (N := some 34) (v := ?_) (a' := ?_) #[vT,vF,vT,vT,vT,vF,vF,vF,vF,vF,vF,vF] rfl rfl (by kernel_rfl) (fun _ _ _ h => h) (Or.inl ⟨by rfl, ?_⟩) ?_ ?_
        rotate_left
        · intro w'; go_simp; with_reducible rfl
        rotate_left
        · simp only [Act.put, List.setIfInBounds_toArray, List.set, i64_w, i32_w]
          rfl
        refine pure_ (i := 5) (N := some 35) (v := ?_) (a' := ?_) #[vT,vF,vT,vT,vT,vT,vF,vF,vF,vF,vF,vF] rfl rfl (by kernel_rfl) (fun _ _ _ h => h) (Or.inl ⟨by rfl, ?_⟩) ?_ ?_
        rotate_left
        · intro w'; go_simp; with_reducible rfl
        rotate_left
        · simp only [Act.put, List.setIfInBounds_toArray, List.set, i64_w, i32_w]
          rfl
        refine pure_ (i := 6) (N := some 36) (v := ?_) (a' := ?_) #[vT,vF,vT,vT,vT,vT,vT,vF,vF,vF,vF,vF] rfl rfl (by kernel_rfl) (fun _ _ _ h => h) (Or.inl ⟨by rfl, ?_⟩) ?_ ?_
        rotate_left
        · intro w'; go_simp; with_reducible rfl
        rotate_left
        · simp only [Act.put, List.setIfInBounds_toArray, List.set, i64_w, i32_w]
          rfl
        refine take_ (i := 1) (N := some 31) (v := ?_) (a' := ?_) #[vT,vT,vT,vT,vT,vT,vT,vF,vF,vF,vF,vF] rfl rfl (by kernel_rfl) (fun _ _ _ h => h) (Or.inl ⟨by rfl, ?_⟩) hHeld ?_ ?_
        rotate_left
        · rintro w' ⟨s0, s1⟩; go_simp; with_reducible rfl
        rotate_left
        · simp only [Act.put, List.setIfInBounds_toArray, List.set, i64_w, i32_w]
          rfl
        refine take_ (i := 7) (N := some 37) (v := ?_) (a' := ?_) #[vT,vT,vT,vT,vT,vT,vT,vT,vF,vF,vF,vF] rfl rfl (by kernel_rfl) (fun _ _ _ h => h) (Or.inl ⟨by rfl, ?_⟩) hHeld ?_ ?_
        rotate_left
        · rintro w' ⟨s0, s1⟩; go_simp; with_reducible rfl
        rotate_left
        · simp only [Act.put, List.setIfInBounds_toArray, List.set, i64_w, i32_w]
          rfl
        refine one_ (i := 8) (N := some 38) #[vT,vT,vT,vT,vT,vT,vT,vT,vT,vF,vF,vF] rfl rfl (by kernel_rfl) (by decide) (fun K hK => ?_)
        refine value_ (w1 := ?_) (v := ?_) (by rfl) rfl ?_ ?_
        rotate_left 2
        · go_simp
          constructor
          · rfl
          · rfl
        have L8 := below_alloc (Below.refl wr.drew.heap.size wr.drew) (.cells #[.int .u64 (X i)] 52)
        refine hK.out _ _ ⟨kB L8 hHeld.1, kB L8 hHeld.2⟩ (fun hHeld => ?_)
        clear hK K
        refine norm_ (a' := ?_) ?_ ?_
        rotate_left
        · show Act.put _ (some 38) _ = _; simp only [Act.put, List.setIfInBounds_toArray, List.set, i64_w, i32_w]; rfl
        refine one_ (i := 9) (N := some 39) #[vT,vT,vT,vT,vT,vT,vT,vT,vT,vT,vF,vF] rfl rfl (by kernel_rfl) (by decide) (fun K hK => ?_)
        refine Kd.R_append_step (Kd.int .u64) (w0 := W0) W0.heap.size (by rfl) (.tmp 31) (.tmp 38) 23 52 (.int .u64 0) 8 rfl Tryz.underlying23 Clone.inf52 rfl (by decide) (by omega) (.slice Ar i cr) (rows X i) (X i) [.int .u64 (X i)] (fun _ => True) (fun _ => False) rfl rfl rfl (fun _ h => h.elim) (fun _ _ => trivial) (Kd.R_drew HR.out) (below_drew1 HBW.out) HSI.out HLN.out ?_
        intro v39 w39 ho39 hb39 hg39 hat39
        rw [← rows_succ] at ho39
        obtain ⟨A39, c39, e39⟩ := Kd.R_slice ho39
        rw [rows_len] at e39
        subst e39
        have HO39 := Aside0.mk ho39
        have HB39 := Aside0.mk hb39
        have HG39 := Aside0.mk hg39
        clear ho39 hb39 hg39 hat39
        have hpb := HPB2.out w39 HG39.out
        refine hK.out _ _ ⟨hpb.1, HMX.out w39 HB39.out⟩ (fun hHeld => ?_)
        clear hK K
        refine norm_ (a' := ?_) ?_ ?_
        rotate_left
        · show Act.put _ (some 39) _ = _; simp only [Act.put, List.setIfInBounds_toArray, List.set, i64_w, i32_w]; rfl
        refine pure_ (i := 10) (N := some 40) (v := ?_) (a' := ?_) #[vT,vT,vT,vT,vT,vT,vT,vT,vT,vT,vT,vF] rfl rfl (by kernel_rfl) (fun _ _ _ h => h) (Or.inl ⟨by rfl, ?_⟩) ?_ ?_
        rotate_left
        · intro w'; go_simp; with_reducible rfl
        rotate_left
        · simp only [Act.put, List.setIfInBounds_toArray, List.set, i64_w, i32_w]
          rfl
        refine last_ (i := 11) (N := none) #[vT,vT,vT,vT,vT,vT,vT,vT,vT,vT,vT,vT] rfl rfl (by kernel_rfl) (by decide) (fun K hK => ?_)
        have z3 := hpb.1
        have f3 := hpb.2.1
        refine skip_ (w1 := ?_) (by rfl) rfl ?_ ?_
        rotate_left
        · go_simp
          rfl
        refine hK.out _ _ ?_
        clear hK K
        refine done_ (by kernel_rfl) ?_
        have HA2 := Aside0.mk (blk_put (cs' := #[(.int .i64 er), (.int .i64 pl), .int .i64 st, .slice A39 (i + 1) c39, .slice At T ct]) hpb.2.2 3 (.slice A39 (i + 1) c39) rfl)
        have HR2 := Aside0.mk (Kd.R_set HO39.out hpb.2.2 (by decide) 3 (.slice A39 (i + 1) c39))
        have HBW2 := Aside0.mk (HB39.out.setCell (p := ⟨W0.heap.size, 3, none⟩) (Nat.le_refl _) (.slice A39 (i + 1) c39))
        have hi3 := HI.out
        clear hpb z3 f3 x3 xg HA HR HBW HO39 HB39 HG39 HPB2 HMX t1 u1 L8
        go_wp2
        exact ⟨⟨i + 1, A39, c39, by go_num, by omega, HA2, HR2, HBW2⟩, by simp [intOf]; omega⟩
      · obtain rfl : i = 32 := by omega
        have HOW2 := Aside0.mk (blk_below HOW.out HBW.out)
        have o0_ := blk_cell HOW2.out 0
        have o1_ := blk_cell HOW2.out 1
        have o2_ := blk_cell HOW2.out 2
        have o3_ := blk_cell HOW2.out 3
        have o4_ := blk_cell HOW2.out 4
        have of0_ := blk_frozen HOW2.out 0
        have of1_ := blk_frozen HOW2.out 1
        have of2_ := blk_frozen HOW2.out 2
        have of3_ := blk_frozen HOW2.out 3
        have of4_ := blk_frozen HOW2.out 4
        have a0_ := blk_cell HA.out 0
        have a1_ := blk_cell HA.out 1
        have a2_ := blk_cell HA.out 2
        have a3_ := blk_cell HA.out 3
        have a4_ := blk_cell HA.out 4
        simp only [List.getElem?_toArray, List.getElem?_cons_zero, List.getElem?_cons_succ] at o0_ o1_ o2_ o3_ o4_ a0_ a1_ a2_ a3_ a4_
        go_wp2_with fail
        have hp := put5_block HOW2.out (.int .i64 er) (.int .i64 pl) (.int .i64 st) (.slice Ar 32 cr) (.slice At T ct)
        have hq1 := Kd.R_lower (R_put5 HR.out HOW2.out (by decide) (.int .i64 er) (.int .i64 pl) (.int .i64 st) (.slice Ar 32 cr) (.slice At T ct)) HB.out.size
        have hq3 := put5_below (.int .i64 er) (.int .i64 pl) (.int .i64 st) (.slice Ar 32 cr) (.slice At T ct) (below_step HB.out HBW.out) (Nat.le_refl w.heap.size)
        unfold put5 at hp hq1 hq3
        refine bodyPost_ret (results_c (fn := Tryz.f22) (p := 2) (ty := 31) rfl _ _ w.heap.size 31 #[(.int .i64 er), (.int .i64 pl), .int .i64 st, .slice Ar 32 cr, .slice At T ct] (0, 0) _ rfl hp Tryz.underlying31 rfl (by kernel_rfl)) rfl ?_
        exact ⟨_, rfl, hq1, hq3⟩
end Go.Proofs.YtcgkgaibomcheaaGreat.ROut
end

section
namespace Go.Proofs.YtcgkgaibomcheaaGreat.RRun
open Go.RowKit Bits Mac Mb Rd RDec EM EOut ROut RM NewR NewM NewE Go.Proofs.YtcgkgaibomcheaaGreat.Pure Goes PRvemuRuns YtcgkgaibomcheaaGreatW.PrintWords YtcgkgaibomcheaaGreatW.PrintLast YtcgkgaibomcheaaGreatW.PrintMore
set_option maxRecDepth 20000 in
set_option maxHeartbeats 1000000 in
theorem runs (cA dA rA sA : Option Addr) (cc dc rc sc : Nat) (lc ld ls lr : List Int) (fr fu : Int) (w : World)
    (hc : (Kd.int .u8).C w cA lc.length lc) (hcc : lc.length ≤ cc) (hlc : lc.length ≤ 140737488355328) (hd : (Kd.int .u8).C w dA ld.length ld) (hdc : ld.length ≤ dc) (hr : (Kd.int .u64).C w rA lr.length lr) (hs : (Kd.int .u8).C w sA ls.length ls) (hsc : ls.length ≤ sc) (hbc : isBytes lc) (hbd : isBytes ld) (hbs : isBytes ls) (hwr : isWords lr) (hfu : fu ≤ 1000000) :
    Calls Tryz.prog 15 #[.agg #[.slice cA lc.length cc, .slice dA ld.length dc, .slice rA lr.length rc, .slice sA ls.length sc, .int .i64 fr, .int .i64 fu]] w fun e w' => ∃ m vr vt, m = runM (newM lc ld lr ls fr fu) ∧ e = .returned (.agg #[.int .i64 m.err, .int .i64 (atOf m), .int .i64 m.steps, vr, vt]) ∧ Kd.R (Kd.int .u64) 52 w' w.heap.size (fun _ => True) vr (regsOf m) ∧ TrAt w' vt m.tr ∧ (∀ k, some k = vt.ownBlock → w.heap.size ≤ k) ∧ Below w.heap.size w w' := by
  have HNW := Aside0.mk (show ∀ W, Below w.heap.size w W → Calls Tryz.prog 20 #[.agg #[.slice cA lc.length cc, .slice dA ld.length dc, .slice rA lr.length rc, .slice sA ls.length sc, .int .i64 fr, .int .i64 fu]] W fun e w' => ∃ g d f, e = .returned (.pointer (some ⟨g, 0, none⟩)) ∧ OutR W.heap.size w' g (.slice cA lc.length cc) d f (newM lc ld lr ls fr fu) ∧ Below W.heap.size W w' from fun W hb => RNew.news cA dA rA sA cc dc rc sc lc ld ls lr fr fu W (Kd.C_below hd hb) hdc (Kd.C_below hr hb) (Kd.C_below hs hb) hsc hbd hbs hwr)
  have HCA := Aside0.mk (show ∀ W, Below w.heap.size w W → CodeAt W (fun k => w.heap.size ≤ k) (.slice cA lc.length cc) lc from fun W hb => ⟨cA, cc, rfl, hcc, Kd.C_below hc hb, fun ad ha hn hk => by
    subst ha
    have := Kd.C_lt hc hn (by decide)
    omega⟩)
  have HBC := Aside0.mk hbc
  have HLC := Aside0.mk hlc
  have HFU := Aside0.mk hfu
  clear hc hcc hlc hd hdc hr hs hsc hbc hbd hbs hwr hfu
  obtain ⟨m0, hm0⟩ : ∃ m0, newM lc ld lr ls fr fu = m0 := ⟨_, rfl⟩
  have HI := Aside0.mk (inv_new lc ld lr ls fr fu)
  have HMC := Aside0.mk (new_code lc ld lr ls fr fu)
  have HMS := Aside0.mk (new_steps lc ld lr ls fr fu)
  have HMF := Aside0.mk (new_fuel lc ld lr ls fr fu)
  rw [hm0] at HI HMC HMS HMF HNW ⊢
  clear hm0
  have hA := blk_below (blk_new w (.cells #[.slice cA lc.length cc, .slice dA ld.length dc, .slice rA lr.length rc, .slice sA ls.length sc, .int .i64 fr, .int .i64 fu] 25)) (below_alloc (Below.refl _ _) (.cells #[.int .i64 0, .int .i64 0, .int .i64 0, .slice none 0 0, .slice none 0 0] 31))
  have z0 : ((w.alloc (.cells #[.slice cA lc.length cc, .slice dA ld.length dc, .slice rA lr.length rc, .slice sA ls.length sc, .int .i64 fr, .int .i64 fu] 25)).alloc (.cells #[.int .i64 0, .int .i64 0, .int .i64 0, .slice none 0 0, .slice none 0 0] 31)).cell? ⟨w.heap.size, 0, none⟩ = some (.slice cA lc.length cc) := (blk_cell hA 0).trans (by simp)
  have z1 : ((w.alloc (.cells #[.slice cA lc.length cc, .slice dA ld.length dc, .slice rA lr.length rc, .slice sA ls.length sc, .int .i64 fr, .int .i64 fu] 25)).alloc (.cells #[.int .i64 0, .int .i64 0, .int .i64 0, .slice none 0 0, .slice none 0 0] 31)).cell? ⟨w.heap.size, 1, none⟩ = some (.slice dA ld.length dc) := (blk_cell hA 1).trans (by simp)
  have z2 : ((w.alloc (.cells #[.slice cA lc.length cc, .slice dA ld.length dc, .slice rA lr.length rc, .slice sA ls.length sc, .int .i64 fr, .int .i64 fu] 25)).alloc (.cells #[.int .i64 0, .int .i64 0, .int .i64 0, .slice none 0 0, .slice none 0 0] 31)).cell? ⟨w.heap.size, 2, none⟩ = some (.slice rA lr.length rc) := (blk_cell hA 2).trans (by simp)
  have z3 : ((w.alloc (.cells #[.slice cA lc.length cc, .slice dA ld.length dc, .slice rA lr.length rc, .slice sA ls.length sc, .int .i64 fr, .int .i64 fu] 25)).alloc (.cells #[.int .i64 0, .int .i64 0, .int .i64 0, .slice none 0 0, .slice none 0 0] 31)).cell? ⟨w.heap.size, 3, none⟩ = some (.slice sA ls.length sc) := (blk_cell hA 3).trans (by simp)
  have z4 : ((w.alloc (.cells #[.slice cA lc.length cc, .slice dA ld.length dc, .slice rA lr.length rc, .slice sA ls.length sc, .int .i64 fr, .int .i64 fu] 25)).alloc (.cells #[.int .i64 0, .int .i64 0, .int .i64 0, .slice none 0 0, .slice none 0 0] 31)).cell? ⟨w.heap.size, 4, none⟩ = some (.int .i64 fr) := (blk_cell hA 4).trans (by simp)
  have z5 : ((w.alloc (.cells #[.slice cA lc.length cc, .slice dA ld.length dc, .slice rA lr.length rc, .slice sA ls.length sc, .int .i64 fr, .int .i64 fu] 25)).alloc (.cells #[.int .i64 0, .int .i64 0, .int .i64 0, .slice none 0 0, .slice none 0 0] 31)).cell? ⟨w.heap.size, 5, none⟩ = some (.int .i64 fu) := (blk_cell hA 5).trans (by simp)
  have HB2 := Aside0.mk (show Below w.heap.size w ((w.alloc (.cells #[.slice cA lc.length cc, .slice dA ld.length dc, .slice rA lr.length rc, .slice sA ls.length sc, .int .i64 fr, .int .i64 fu] 25)).alloc (.cells #[.int .i64 0, .int .i64 0, .int .i64 0, .slice none 0 0, .slice none 0 0] 31)) from below_alloc (below_alloc (Below.refl _ _) _) _)
  have HRES := Aside0.mk (show (((w.alloc (.cells #[.slice cA lc.length cc, .slice dA ld.length dc, .slice rA lr.length rc, .slice sA ls.length sc, .int .i64 fr, .int .i64 fu] 25)).alloc (.cells #[.int .i64 0, .int .i64 0, .int .i64 0, .slice none 0 0, .slice none 0 0] 31))).heap[w.heap.size + 1]? = some (.cells #[.int .i64 0, .int .i64 0, .int .i64 0, .slice none 0 0, .slice none 0 0] 31 (0, 0)) from by
    have h := blk_new (w.alloc (.cells #[.slice cA lc.length cc, .slice dA ld.length dc, .slice rA lr.length rc, .slice sA ls.length sc, .int .i64 fr, .int .i64 fu] 25)) (.cells #[.int .i64 0, .int .i64 0, .int .i64 0, .slice none 0 0, .slice none 0 0] 31)
    rw [World.size_alloc] at h
    exact h)
  clear hA
  go_enter Tryz.func15, Tryz.ntmps15
  go_wp2_with fail
  refine (HNW.out _ HB2.out).mono ?_
  rintro e W3 ⟨g, d, f, rfl, hO, hb3⟩
  have HSZ := Aside0.mk (show w.heap.size + 1 < (((w.alloc (.cells #[.slice cA lc.length cc, .slice dA ld.length dc, .slice rA lr.length rc, .slice sA ls.length sc, .int .i64 fr, .int .i64 fu] 25)).alloc (.cells #[.int .i64 0, .int .i64 0, .int .i64 0, .slice none 0 0, .slice none 0 0] 31))).heap.size from by rw [World.size_alloc, World.size_alloc]; omega)
  have HG3 := Aside0.mk (goR_new hO (by rw [HMC.out]; exact (HCA.out _ (below_step HB2.out hb3)).imp (fun k _ hk => Nat.le_trans HB2.out.size hk)) hb3.size)
  have HB3 := Aside0.mk hb3
  clear hO hb3 z0 z1 z2 z3 z4 z5 HNW
  generalize ((w.alloc (.cells #[.slice cA lc.length cc, .slice dA ld.length dc, .slice rA lr.length rc, .slice sA ls.length sc, .int .i64 fr, .int .i64 fu] 25)).alloc (.cells #[.int .i64 0, .int .i64 0, .int .i64 0, .slice none 0 0, .slice none 0 0] 31)) = W2 at *
  go_wp2_with fail
  have HN := Aside0.mk (it_ends m0 HMS.out)
  have HINV := Aside0.mk (fun k => inv_it HI.out k)
  have HBND := Aside0.mk (show ∀ k, 0 ≤ (it k m0).steps ∧ (it k m0).steps ≤ 1000000 ∧ (it k m0).tr.length ≤ 1000000000 ∧ (it k m0).code = lc from fun k => by
    have h := HINV.out k
    have h1 := h.steps
    have h2 := h.max
    have h3 := h.tr
    have h4 := h.fuel
    rw [HMF.out] at h4
    have h5 := HFU.out
    exact ⟨h1, by omega, by omega, h.code.trans HMC.out⟩)
  go_loopg [4] (m0.fuel.toNat + 2) (fun gk v4 W => ∃ (i : Nat) (f t : Value) (b : Bool), v4 = .bool b ∧ i + gk = m0.fuel.toNat + 2 ∧ (b = true → (it i m0).done = true) ∧ (0 < i → b = (it i m0).done) ∧ Aside0 (GoR W2.heap.size g (.slice cA lc.length cc) d f t W (it i m0)) ∧ Aside0 (Below W2.heap.size W2 W))
  case atStart => exact ⟨0, f, .slice none 0 0, false, rfl, by omega, fun h => by simp at h, fun h => by omega, HG3, HB3⟩
  case round =>
    clear HG3 HB3
    obtain ⟨i, f, t, b, rfl, hi, hb1, hb2, HG, HB⟩ := hrel
    cases b with
    | true =>
      have hd := hb1 rfl
      have HM := Aside0.mk (runM_of m0 HMS.out hd)
      obtain ⟨b1, b2, b3, b4⟩ := HBND.out i
      have HR4 := Aside0.mk (blk_below HRES.out HB.out)
      have ht := HG.out.mr.tr
      obtain ⟨At, ct, eat, hct, hC⟩ := Kd.R_reads ht
      subst eat
      have HOU := Aside0.mk (ROut.outcome g (it i m0) (.slice cA lc.length cc) d f At (it i m0).tr.length ct wr HG.out.mr.mb)
      have HTT := Aside0.mk (show ∀ k, some k = (Value.slice At (it i m0).tr.length ct).ownBlock → W2.heap.size ≤ k from fun k hk => HG.out.low k (.inr (.inr (.inr hk))))
      have HTA := Aside0.mk ht
      clear hd b1 b2 b3 b4 hb1 hb2 hi ht hct hC
      rw [← HM.out] at HOU HTT HTA
      have hM := HM.out
      clear HG HINV HBND HN HMS HMC HMF HI HM
      go_wp2_with fail
      refine HOU.out.mono ?_
      rintro e W5 ⟨vr, rfl, hr5, hb5⟩
      obtain ⟨Ar, cr, ear⟩ := Kd.R_slice hr5
      rw [regs_len] at ear
      subst ear
      have HR5 := Aside0.mk (blk_below HR4.out hb5)
      have HB5 := Aside0.mk (below_step HB2.out (below_step HB.out hb5))
      have hle : w.heap.size ≤ wr.heap.size := (below_step HB2.out HB.out).size
      have HRR := Aside0.mk (Kd.R_lower hr5 hle)
      have HRT := Aside0.mk (show TrAt W5 _ _ from Kd.R_below HTA.out hb5)
      clear hr5 hb5 hle HOU HR4 hM HTA
      have o0_ := blk_cell HR5.out 0
      have o1_ := blk_cell HR5.out 1
      have o2_ := blk_cell HR5.out 2
      have o3_ := blk_cell HR5.out 3
      have o4_ := blk_cell HR5.out 4
      have of0_ := blk_frozen HR5.out 0
      have of1_ := blk_frozen HR5.out 1
      have of2_ := blk_frozen HR5.out 2
      have of3_ := blk_frozen HR5.out 3
      have of4_ := blk_frozen HR5.out 4
      simp only [List.getElem?_toArray, List.getElem?_cons_zero, List.getElem?_cons_succ] at o0_ o1_ o2_ o3_ o4_
      obtain ⟨M, hM⟩ : ∃ M, runM m0 = M := ⟨_, rfl⟩
      rw [hM] at HRR HRT HTT ⊢
      have HMM := Aside0.mk hM
      clear hM
      generalize M.tr.length = nt at *
      go_wp2_with fail
      have hp := put5_block HR5.out (.int .i64 M.err) (.int .i64 (atOf M)) (.int .i64 M.steps) (.slice Ar 32 cr) (.slice At nt ct)
      have hq1 := R_put5 HRR.out HR5.out (by decide) (.int .i64 M.err) (.int .i64 (atOf M)) (.int .i64 M.steps) (.slice Ar 32 cr) (.slice At nt ct)
      have hq2 : TrAt _ _ _ := R_put5 HRT.out HR5.out (by decide) (.int .i64 M.err) (.int .i64 (atOf M)) (.int .i64 M.steps) (.slice Ar 32 cr) (.slice At nt ct)
      have hq3 := put5_below (.int .i64 M.err) (.int .i64 (atOf M)) (.int .i64 M.steps) (.slice Ar 32 cr) (.slice At nt ct) HB5.out (Nat.le_succ w.heap.size)
      unfold put5 at hp hq1 hq2 hq3
      refine bodyPost_ret (results_c (fn := Tryz.f15) (p := 2) (ty := 31) rfl _ _ (w.heap.size + 1) 31 #[.int .i64 M.err, .int .i64 (atOf M), .int .i64 M.steps, .slice Ar 32 cr, .slice At nt ct] (0, 0) _ rfl hp Tryz.underlying31 rfl (by kernel_rfl)) rfl ?_
      exact ⟨M, _, _, HMM.out.symm, rfl, hq1, hq2, fun k hk => Nat.le_trans HB2.out.size (HTT.out k hk), hq3⟩
    | false =>
      have hnd : i = 0 ∨ (it i m0).done = false := by
        by_cases h0 : i = 0
        · exact .inl h0
        · exact .inr (hb2 (by omega)).symm
      have hgk : gk ≠ 0 := fun e0 => by
        rcases hnd with h0 | h0
        · omega
        · have h2 := it_done m0 HN.out i (by omega)
          rw [h2, HN.out] at h0
          cases h0
      obtain ⟨k1, hk1⟩ : ∃ k1, gk = k1 + 1 := ⟨gk - 1, by omega⟩
      subst hk1
      obtain ⟨b1, b2, b3, b4⟩ := HBND.out i
      have HST := Aside0.mk (RStep.step_eq HG.out.mr HG.out.code (by rw [b4]; exact HBC.out) (by rw [b4]; have := HLC.out; omega) b3 (by omega) (by omega))
      have HI2 := Aside0.mk hi
      clear b1 b2 b3 b4 hi hnd hgk hb1 hb2
      go_wp2_with fail
      refine HST.out.mono ?_
      rintro e W4 ⟨rfl, hl⟩
      obtain ⟨f4, t4, hg4⟩ := HG.out.step hl
      have hwr4 : Wr (ownR g t) wr W4 := by
        obtain ⟨_, _, _, h, _⟩ := hl
        exact h
      have HB4 := Aside0.mk (below_wr HB.out HB.out.size hwr4 (fun k _ hk => HG.out.owned k hk))
      have HG4 := Aside0.mk (show GoR W2.heap.size g (.slice cA lc.length cc) d f4 t4 W4 (it (i + 1) m0) from hg4)
      clear hl hg4 hwr4 HST HG HB
      have hsd : (stepM (it i m0)).done = (it (i + 1) m0).done := rfl
      rw [hsd]
      clear hsd
      have HDD := Aside0.mk (show ∀ b, (it (i + 1) m0).done = b → (b = true → (it (i + 1) m0).done = true) ∧ b = (it (i + 1) m0).done from fun b hb => ⟨fun h => hb.trans h, hb.symm⟩)
      obtain ⟨b4, hb4⟩ : ∃ b4, (it (i + 1) m0).done = b4 := ⟨_, rfl⟩
      have HD4 := Aside0.mk (HDD.out b4 hb4)
      rw [hb4]
      clear hb4 HDD HBND HINV HN
      go_wp2_with fail
      go_roundg k1
      case measure => omega
      case rel => exact ⟨i + 1, f4, t4, b4, rfl, by have := HI2.out; omega, HD4.out.1, fun _ => HD4.out.2, HG4, HB4⟩
end Go.Proofs.YtcgkgaibomcheaaGreat.RRun
end
