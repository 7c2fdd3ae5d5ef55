/- Joined texts: KeptH, RNew, ROut, RRun, RunsL, StepsP. Conditions: those of each theorem. -/
import Derived.Test.YtcgkgaibomcheaaGreatZC01
import Derived.Test.YtcgkgaibomcheaaGreatZT21
import Derived.Test.YtcgkgaibomcheaaGreatZT18
import Derived.Test.YtcgkgaibomcheaaGreatZT19
import Derived.Test.YtcgkgaibomcheaaGreatZC16
set_option linter.unusedVariables false
set_option linter.unusedSimpArgs false
section
namespace Go.Proofs.YtcgkgaibomcheaaGreat.RNew
open Go.RowKit Bits Mac Mb Rd RDec EM RM Fill NewM NewE NewR PRvemuRuns YtcgkgaibomcheaaGreatW.PrintWords YtcgkgaibomcheaaGreatW.PrintLast YtcgkgaibomcheaaGreatW.PrintMore
theorem filled_form {W w' : World} {v : Value} {l : List Int} {n : Nat} (h : Filled W v l n w') (hn : 0 < n) : ∃ gd cd, v = .slice (some ⟨gd, 0, none⟩) n cd ∧ n ≤ cd := by
 obtain ⟨A, c, e, hc, hr⟩ := h.1
 rw [pad_len] at e hc
 rcases hr with hr | ⟨b, hb, _⟩
 · have := pad_len l n
   rw [hr] at this
   simp at this
   omega
 · subst hb
   exact ⟨b, c, e, hc⟩
set_option maxRecDepth 20000 in
set_option maxHeartbeats 1000000 in
theorem news (cA dA rA sA : Option Addr) (cc dc rc sc : Nat) (lc ld ls lr : List Int) (fr fu : Int) (w : World)
 (hd : (Kd.int .u8).C w dA ld.length ld) (hdc : ld.length ≤ dc) (hr : (Kd.int .u64).C w rA lr.length lr) (hs : (Kd.int .u8).C w sA ls.length ls) (hsc : ls.length ≤ sc) (hbd : isBytes ld) (hbs : isBytes ls) (hwr : isWords lr) :
 Calls Tryz.prog 20 #[.agg #[.slice cA lc.length cc, .slice dA ld.length dc, .slice rA lr.length rc, .slice sA ls.length sc, .int .i64 fr, .int .i64 fu]] w fun e w' => ∃ g d f, e = .returned (.pointer (some ⟨g, 0, none⟩)) ∧ OutR w.heap.size w' g (.slice cA lc.length cc) d f (newM lc ld lr ls fr fu) ∧ Below w.heap.size w w' := by
 have hbz := below_alloc (Below.refl w.heap.size w) (.cells #[.slice cA lc.length cc, .slice dA ld.length dc, .slice rA lr.length rc, .slice sA ls.length sc, .int .i64 fr, .int .i64 fu] 25)
 have HC36 := Aside0.mk (show ∀ W1, Below w.heap.size w W1 → Calls Tryz.prog 36 #[.slice dA ld.length dc, .int .i64 64] W1 fun e w' => ∃ gd cd, e = .returned (.slice (some ⟨gd, 0, none⟩) 64 cd) ∧ 64 ≤ cd ∧ Filled W1 (.slice (some ⟨gd, 0, none⟩) 64 cd) ld 64 w' ∧ Below W1.heap.size W1 w' from fun W1 hb => by
  refine (filled36 dA dc ld 64 W1 (Kd.C_below hd hb) hdc (by omega)).mono fun e w' hh => ?_
  obtain ⟨v, he, hr⟩ := hh
  obtain ⟨gd, cd, ev, h64⟩ := filled_form hr (by omega)
  subst ev
  exact ⟨gd, cd, he, h64, hr, hr.2.2⟩)
 have hB := blk_new w (.cells #[.slice cA lc.length cc, .slice dA ld.length dc, .slice rA lr.length rc, .slice sA ls.length sc, .int .i64 fr, .int .i64 fu] 25)
 have HRC := Aside0.mk hr
 have HBD := Aside0.mk hbd
 have HBS := Aside0.mk hbs
 have HWR := Aside0.mk hwr
 have HS34 := Aside0.mk (show ∀ W1, Below w.heap.size w W1 → 0 ≤ fr → fr ≤ 1048576 → Calls Tryz.prog 36 #[.slice sA ls.length sc, .int .i64 fr] W1 fun e w' => ∃ f, e = .returned f ∧ Filled W1 f ls fr.toNat w' from fun W1 hb h0 h1 => by
  have hx := filled36 sA sc ls fr.toNat W1 (Kd.C_below hs hb) hsc (by omega)
  rw [Int.toNat_of_nonneg h0] at hx
  exact hx)
 clear hd hr hs hbd hbs hwr hdc hsc
 obtain ⟨nC, hnC⟩ : ∃ nC, lc.length = nC := ⟨_, rfl⟩
 obtain ⟨nD, hnD⟩ : ∃ nD, ld.length = nD := ⟨_, rfl⟩
 obtain ⟨nR, hnR⟩ : ∃ nR, lr.length = nR := ⟨_, rfl⟩
 obtain ⟨nS, hnS⟩ : ∃ nS, ls.length = nS := ⟨_, rfl⟩
 have NC := Aside0.mk hnC
 have ND := Aside0.mk hnD
 have NR := Aside0.mk hnR
 have NS := Aside0.mk hnS
 rw [hnC] at hB hbz
 rw [hnD] at HC36 hB hbz
 rw [hnR, hnS] at hB hbz
 rw [hnS] at HS34
 rw [hnC, hnD, hnR, hnS]
 clear hnC hnD hnR hnS
 go_enter Tryz.func20, Tryz.ntmps20
 go_wp2_with fail
 obtain ⟨W0, hW0⟩ : ∃ W0, w.alloc (.cells #[.slice cA nC cc, .slice dA nD dc, .slice rA nR rc, .slice sA nS sc, .int .i64 fr, .int .i64 fu] 25) = W0 := ⟨_, rfl⟩
 rw [hW0] at hB hbz ⊢
 have HB0 := Aside0.mk hB
 have HBZ := Aside0.mk hbz
 have HSZ := Aside0.mk (show W0.heap.size = w.heap.size + 1 from by rw [← hW0, World.size_alloc])
 have x0 := blk_cell HB0.out 0
 have x1 := blk_cell HB0.out 1
 have x5 := blk_cell HB0.out 5
 simp only [List.getElem?_toArray, List.getElem?_cons_zero, List.getElem?_cons_succ] at x0 x1 x5
 have HW0 := Aside0.mk hW0
 clear hW0 hB hbz
 have L := below_drew1 (Below.refl W0.heap.size W0)
 refine start_ (n := 10) (S := fun w' => w'.cell? ⟨w.heap.size, 0, none⟩ = some (.slice cA nC cc) ∧ w'.cell? ⟨w.heap.size, 1, none⟩ = some (.slice dA nD dc) ∧ w'.cell? ⟨w.heap.size, 5, none⟩ = some (.int .i64 fu)) (ds := []) #[vF,vF,vF,vF,vF,vF,vF,vF,vF,vF] (by kernel_rfl) rfl rfl ⟨kB L x0, kB L x1, kB L x5⟩ (fun hHeld => ?_)
 refine pure_ (i := 0) (N := some 5) (v := ?_) (a' := ?_) #[vT,vF,vF,vF,vF,vF,vF,vF,vF,vF] rfl rfl (by kernel_rfl) (fun _ _ _ h => h) (Or.inl ⟨by rfl, ?_⟩) ?_ ?_
 rotate_left
 · intro w'; go_simp; with_reducible rfl
 rotate_left
 · simp only [Act.put, List.setIfInBounds_toArray, List.set, i64_w, i32_w]
   rfl
 refine pure_ (i := 2) (N := some 7) (v := ?_) (a' := ?_) #[vT,vF,vT,vF,vF,vF,vF,vF,vF,vF] rfl rfl (by kernel_rfl) (fun _ _ _ h => h) (Or.inl ⟨by rfl, ?_⟩) ?_ ?_
 rotate_left
 · intro w'; go_simp; with_reducible rfl
 rotate_left
 · simp only [Act.put, List.setIfInBounds_toArray, List.set, i64_w, i32_w]
   rfl
 refine pure_ (i := 5) (N := some 10) (v := ?_) (a' := ?_) #[vT,vF,vT,vF,vF,vT,vF,vF,vF,vF] rfl rfl (by kernel_rfl) (fun _ _ _ h => h) (Or.inl ⟨by rfl, ?_⟩) ?_ ?_
 rotate_left
 · intro w'; go_simp; with_reducible rfl
 rotate_left
 · simp only [Act.put, List.setIfInBounds_toArray, List.set, i64_w, i32_w]
   rfl
 refine take_ (i := 1) (N := some 6) (v := ?_) (a' := ?_) #[vT,vT,vT,vF,vF,vT,vF,vF,vF,vF] rfl rfl (by kernel_rfl) (fun _ _ _ h => h) (Or.inl ⟨by rfl, ?_⟩) hHeld ?_ ?_
 rotate_left
 · rintro w' ⟨s0, s1, s2⟩; go_simp; with_reducible rfl
 rotate_left
 · simp only [Act.put, List.setIfInBounds_toArray, List.set, i64_w, i32_w]
   rfl
 refine take_ (i := 3) (N := some 8) (v := ?_) (a' := ?_) #[vT,vT,vT,vT,vF,vT,vF,vF,vF,vF] rfl rfl (by kernel_rfl) (fun _ _ _ h => h) (Or.inl ⟨by rfl, ?_⟩) hHeld ?_ ?_
 rotate_left
 · rintro w' ⟨s0, s1, s2⟩; go_simp; with_reducible rfl
 rotate_left
 · simp only [Act.put, List.setIfInBounds_toArray, List.set, i64_w, i32_w]
   rfl
 refine take_ (i := 6) (N := some 11) (v := ?_) (a' := ?_) #[vT,vT,vT,vT,vF,vT,vT,vF,vF,vF] rfl rfl (by kernel_rfl) (fun _ _ _ h => h) (Or.inl ⟨by rfl, ?_⟩) hHeld ?_ ?_
 rotate_left
 · rintro w' ⟨s0, s1, s2⟩; go_simp; with_reducible rfl
 rotate_left
 · simp only [Act.put, List.setIfInBounds_toArray, List.set, i64_w, i32_w]
   rfl
 refine one_ (i := 4) (N := some 9) #[vT,vT,vT,vT,vT,vT,vT,vF,vF,vF] rfl rfl (by kernel_rfl) (by decide) (fun K hK => ?_)
 refine goes_ Tryz.func36 (by kernel_rfl) rfl #[.slice dA nD dc, .int .i64 64] (by rfl) rfl rfl (by simp only [List.map_toArray, List.map_cons, List.map_nil]; rfl) ?_
 with_reducible refine (HC36.out _ (below_step HBZ.out L)).mono ?_
 rintro e w10 ⟨gd, cd, rfl, hcd, hdata, hb5⟩
 refine ⟨_, rfl, ?_⟩
 have HCD := Aside0.mk hcd
 have hle9 := (below_step HBZ.out L).size
 clear hcd
 have hdata := Aside0.mk hdata
 have L := below_step L hb5
 have HB5 := Aside0.mk hb5
 refine hK.out _ _ ⟨kB L x0, kB L x1, kB L x5⟩ (fun hHeld => ?_)
 clear hK K
 refine norm_ (a' := ?_) ?_ ?_
 rotate_left
 · show Act.put _ (some 9) _ = _; simp only [Act.put, List.setIfInBounds_toArray, List.set, i64_w, i32_w]; rfl
 refine pure_ (i := 7) (N := some 12) (v := ?_) (a' := ?_) #[vT,vT,vT,vT,vT,vT,vT,vT,vF,vF] rfl rfl (by kernel_rfl) (fun _ _ _ h => h) (Or.inl ⟨by rfl, ?_⟩) ?_ ?_
 rotate_left
 · intro w'; go_simp; with_reducible rfl
 rotate_left
 · simp only [Act.put, List.setIfInBounds_toArray, List.set, i64_w, i32_w]
   rfl
 refine one_ (i := 8) (N := some 13) #[vT,vT,vT,vT,vT,vT,vT,vT,vT,vF] rfl rfl (by kernel_rfl) (by decide) (fun K hK => ?_)
 refine value_ (w1 := ?_) (v := ?_) (by rfl) rfl ?_ ?_
 rotate_left 2
 · go_simp
   constructor
   · rfl
   · rfl
 have L11 := L
 obtain ⟨W12, hW12⟩ : ∃ W12, w10.alloc (.cells (bareR fu (.slice cA nC cc) (.slice (some ⟨gd, 0, none⟩) 64 cd)) 76) = W12 := ⟨_, rfl⟩
 have hblk := blk_new w10 (.cells (bareR fu (.slice cA nC cc) (.slice (some ⟨gd, 0, none⟩) 64 cd)) 76)
 have L := below_alloc L (.cells (bareR fu (.slice cA nC cc) (.slice (some ⟨gd, 0, none⟩) 64 cd)) 76)
 rw [hW12] at L hblk
 have HBLK := Aside0.mk hblk
 refine swapw (W := W12) hW12.symm ?_
 refine hK.out _ _ ⟨kB L x0, kB L x1, kB L x5⟩ (fun hHeld => ?_)
 clear hK K
 refine norm_ (a' := ?_) ?_ ?_
 rotate_left
 · show Act.put _ (some 13) _ = _; simp only [Act.put, List.setIfInBounds_toArray, List.set, i64_w, i32_w]; rfl
 refine pure_ (i := 9) (N := some 3) (v := ?_) (a' := ?_) #[vT,vT,vT,vT,vT,vT,vT,vT,vT,vT] rfl rfl (by kernel_rfl) (fun _ _ _ h => h) (Or.inl ⟨by rfl, ?_⟩) ?_ ?_
 rotate_left
 · intro w'; go_simp; with_reducible rfl
 rotate_left
 · simp only [Act.put, List.setIfInBounds_toArray, List.set, i64_w, i32_w]
   rfl
 refine done_ (by kernel_rfl) ?_
 have hp0 := pre_newR (.cells (bareR fu (.slice cA nC cc) (.slice (some ⟨gd, 0, none⟩) 64 cd)) 76) hdata.out hle9
 rw [hW12] at hp0
 have HP := Aside0.mk hp0
 have HENV := Aside0.mk (blk_below HB0.out L)
 have HEG := Aside0.mk (show w.heap.size < w10.heap.size from by
  have h2 := HB5.out.size
  have h4 := HSZ.out
  have h5 : W0.drew.heap.size = W0.heap.size := rfl
  omega)
 have HL := Aside0.mk (below_step HBZ.out L)
 have hm0 : MB 76 41 W12 w10.heap.size (vals (bare lc ld (fun _ => 0#64) fu) (.slice cA nC cc) (.slice (some ⟨gd, 0, none⟩) 64 cd) (.slice none 0 0) (.slice none 0 0) undef) := ⟨_, HBLK.out, cells_bareR lc ld fu _ _⟩
 rw [← upto_one lr] at hm0
 have HM := Aside0.mk hm0
 have x2 := blk_cell HENV.out 2
 simp only [List.getElem?_toArray, List.getElem?_cons_zero, List.getElem?_cons_succ] at x2
 clear hdata hle9 HB5 hHeld x0 x1 x5 x2 HC36 HSZ HW0 HBZ HB0 L L11 hp0 hW12 hblk hm0 HBLK
 generalize w10.heap.size = g at *
 go_wp2_with fail
 go_loopw [4] (fun v4 W => ∃ i : Nat, v4 = .int .i64 (i : Int) ∧ 1 ≤ i ∧ i ≤ 32 ∧ Aside0 (MB 76 41 W g (vals (bare lc ld (upto lr i) fu) (.slice cA nC cc) (.slice (some ⟨gd, 0, none⟩) 64 cd) (.slice none 0 0) (.slice none 0 0) undef)) ∧ Aside0 (PreR w.heap.size W g gd ld) ∧ Aside0 (W.heap[w.heap.size]? = some (.cells #[.slice cA nC cc, .slice dA nD dc, .slice rA nR rc, .slice sA nS sc, .int .i64 fr, .int .i64 fu] 25 (0, 0))) ∧ Aside0 (Below w.heap.size w W)) (fun v4 _ => 32 - (intOf v4).toNat)
 case atStart => exact ⟨1, rfl, by omega, by omega, HM, HP, HENV, HL⟩
 case round =>
  clear HM HP HENV HL
  obtain ⟨i, rfl, hi1, hi2, HM, HP, HENV, HL⟩ := hrel
  have x2 := blk_cell HENV.out 2
  simp only [List.getElem?_toArray, List.getElem?_cons_zero, List.getElem?_cons_succ] at x2
  by_cases hc : i < 32 ∧ i < nR
  · obtain ⟨hlt, hln⟩ := hc
    obtain ⟨ad, ea, xe⟩ := Kd.at_int HRC.out (i : Int) (by omega) (by rw [NR.out]; omega)
    subst ea
    have HAB := Aside0.mk (World.block_lt_of_cell? w _ xe)
    have xe : wr.cell? (ad.add i) = some (.int .u64 (lr.getD i 0)) := by
     have h := (HL.out.cell HAB.out).trans xe
     rw [Int.toNat_natCast] at h
     rw [h]
     unfold rd
     simp
    have t1 : decide ((i : Int) < 32) = true := decide_eq_true (by omega)
    have t2 : decide ((i : Int) < (nR : Int)) = true := decide_eq_true (by omega)
    have u1 : ((i : Int) < 32) = True := eq_true (by omega)
    have u2 : ((i : Int) < (nR : Int)) = True := eq_true (by omega)
    obtain ⟨vx, hvx⟩ : ∃ vx, lr.getD i 0 = vx := ⟨_, rfl⟩
    rw [hvx] at xe
    have HV := Aside0.mk hvx
    clear hvx
    have c0_ := HM.out.cell (3 + i) (by omega)
    have e0_ := HM.out.frozen (3 + i)
    have HI := Aside0.mk (show 1 ≤ i ∧ i < 32 ∧ i < nR from ⟨hi1, hlt, hln⟩)
    have HEG1 := Aside0.mk (show w.heap.size ≠ g from Nat.ne_of_lt HEG.out)
    clear hlt hln
    have HEG2 := Aside0.mk (show (ad.add i).block ≠ g from by
     have h := HAB.out
     rw [Int.toNat_natCast] at h
     have := HEG.out
     omega)
    go_wp2_with fail
    refine start_ (n := 11) (S := fun w' => w'.cell? ⟨w.heap.size, 2, none⟩ = some (.slice (some ad) nR rc) ∧ w'.cell? (ad.add i) = some (.int .u64 vx)) (ds := []) #[vF,vF,vF,vF,vF,vF,vF,vF,vF,vF,vF] (by kernel_rfl) rfl rfl ⟨x2, xe⟩ (fun hHeld => ?_)
    refine pure_ (i := 0) (N := some 25) (v := ?_) (a' := ?_) #[vT,vF,vF,vF,vF,vF,vF,vF,vF,vF,vF] rfl rfl (by kernel_rfl) (fun _ _ _ h => h) (Or.inl ⟨by rfl, ?_⟩) ?_ ?_
    rotate_left
    · intro w'; go_simp; with_reducible rfl
    rotate_left
    · simp only [Act.put, List.setIfInBounds_toArray, List.set, i64_w, i32_w]
      rfl
    refine pure_ (i := 1) (N := some 26) (v := ?_) (a' := ?_) #[vT,vT,vF,vF,vF,vF,vF,vF,vF,vF,vF] rfl rfl (by kernel_rfl) (fun _ _ _ h => h) (Or.inl ⟨by rfl, ?_⟩) ?_ ?_
    rotate_left
    · intro w'; go_simp; with_reducible rfl
    rotate_left
    · simp only [Act.put, List.setIfInBounds_toArray, List.set, i64_w, i32_w]
      rfl
    refine pure_ (i := 2) (N := some 27) (v := ?_) (a' := ?_) #[vT,vT,vT,vF,vF,vF,vF,vF,vF,vF,vF] rfl rfl (by kernel_rfl) (fun _ _ _ h => h) (Or.inl ⟨by rfl, ?_⟩) ?_ ?_
    rotate_left
    · intro w'; go_simp; with_reducible rfl
    rotate_left
    · simp only [Act.put, List.setIfInBounds_toArray, List.set, i64_w, i32_w]
      rfl
    refine pure_ (i := 4) (N := some 29) (v := ?_) (a' := ?_) #[vT,vT,vT,vF,vT,vF,vF,vF,vF,vF,vF] rfl rfl (by kernel_rfl) (fun _ _ _ h => h) (Or.inl ⟨by rfl, ?_⟩) ?_ ?_
    rotate_left
    · intro w'; go_simp; with_reducible rfl
    rotate_left
    · simp only [Act.put, List.setIfInBounds_toArray, List.set, i64_w, i32_w]
      rfl
    refine pure_ (i := 7) (N := some 32) (v := ?_) (a' := ?_) #[vT,vT,vT,vF,vT,vF,vF,vT,vF,vF,vF] rfl rfl (by kernel_rfl) (fun _ _ _ h => h) (Or.inl ⟨by rfl, ?_⟩) ?_ ?_
    rotate_left
    · intro w'; go_simp; with_reducible rfl
    rotate_left
    · simp only [Act.put, List.setIfInBounds_toArray, List.set, i64_w, i32_w]
      rfl
    refine pure_ (i := 8) (N := some 33) (v := ?_) (a' := ?_) #[vT,vT,vT,vF,vT,vF,vF,vT,vT,vF,vF] rfl rfl (by kernel_rfl) (fun _ _ _ h => h) (Or.inl ⟨by rfl, ?_⟩) ?_ ?_
    rotate_left
    · intro w'; go_simp; with_reducible rfl
    rotate_left
    · simp only [Act.put, List.setIfInBounds_toArray, List.set, i64_w, i32_w]
      rfl
    refine take_ (i := 3) (N := some 28) (v := ?_) (a' := ?_) #[vT,vT,vT,vT,vT,vF,vF,vT,vT,vF,vF] rfl rfl (by kernel_rfl) (fun _ _ _ h => h) (Or.inl ⟨by rfl, ?_⟩) hHeld ?_ ?_
    rotate_left
    · rintro w' ⟨s0, s1⟩; go_simp; with_reducible rfl
    rotate_left
    · simp only [Act.put, List.setIfInBounds_toArray, List.set, i64_w, i32_w]
      rfl
    refine pure_ (i := 5) (N := some 30) (v := ?_) (a' := ?_) #[vT,vT,vT,vT,vT,vT,vF,vT,vT,vF,vF] rfl rfl (by kernel_rfl) (fun _ _ _ h => h) (Or.inl ⟨by rfl, ?_⟩) ?_ ?_
    rotate_left
    · intro w'; go_simp; with_reducible rfl
    rotate_left
    · simp only [Act.put, List.setIfInBounds_toArray, List.set, i64_w, i32_w]
      rfl
    refine take_ (i := 6) (N := some 31) (v := ?_) (a' := ?_) #[vT,vT,vT,vT,vT,vT,vT,vT,vT,vF,vF] rfl rfl (by kernel_rfl) (fun _ _ _ h => h) (Or.inl ⟨by rfl, ?_⟩) hHeld ?_ ?_
    rotate_left
    · rintro w' ⟨s0, s1⟩; go_simp; with_reducible rfl
    rotate_left
    · simp only [Act.put, List.setIfInBounds_toArray, List.set, i64_w, i32_w]
      rfl
    refine pure_ (i := 9) (N := some 34) (v := ?_) (a' := ?_) #[vT,vT,vT,vT,vT,vT,vT,vT,vT,vT,vF] rfl rfl (by kernel_rfl) (fun _ _ _ h => h) (Or.inl ⟨by rfl, ?_⟩) ?_ ?_
    rotate_left
    · intro w'; go_simp; with_reducible rfl
    rotate_left
    · simp only [Act.put, List.setIfInBounds_toArray, List.set, i64_w, i32_w]
      rfl
    refine one_ (i := 10) (N := none) #[vT,vT,vT,vT,vT,vT,vT,vT,vT,vT,vT] rfl rfl (by kernel_rfl) (by decide) (fun K hK => ?_)
    refine skip_ (w1 := ?_) (by rfl) rfl ?_ ?_
    rotate_left
    · go_simp
      rfl
    refine hK.out _ _ ⟨kS HEG1.out hHeld.1, kS HEG2.out hHeld.2⟩ (fun hHeld => ?_)
    clear hK K
    refine done_ (by kernel_rfl) ?_
    have hm2 := mb_upto HM.out HI.out.1 HI.out.2.1 HWR.out
    rw [HV.out] at hm2
    have HM2 := Aside0.mk hm2
    have HK2 := Aside0.mk (show ∀ k, k < g → (wr.setCell ⟨g, 3 + i, none⟩ (.int .u64 vx)).heap[k]? = wr.heap[k]? from fun k hk => Below.heap_setCell _ _ _ k (Nat.ne_of_lt hk))
    have HP2 := Aside0.mk (HP.out.step HK2.out)
    have HENV2 := Aside0.mk ((HK2.out _ HEG.out).trans HENV.out)
    have HL2 := Aside0.mk (HL.out.setCell (p := ⟨g, 3 + i, none⟩) (Nat.le_of_lt HEG.out) (.int .u64 vx))
    clear hHeld x2 xe c0_ e0_ HM HK2 HP HENV HL t1 t2 u1 u2 hm2
    have hi3 := HI.out.2.1
    go_wp2
    exact ⟨⟨i + 1, by go_num, by omega, by omega, HM2, ⟨HP2.out.step (fun _ _ => rfl)⟩, HENV2, ⟨below_drew1 HL2.out⟩⟩, by simp [intOf]; omega⟩
  · have HX := Aside0.mk (show 32 ≤ i ∨ lr.length ≤ i from by rw [NR.out]; omega)
    have y3 := blk_cell HENV.out 3
    have y4 := blk_cell HENV.out 4
    simp only [List.getElem?_toArray, List.getElem?_cons_zero, List.getElem?_cons_succ] at y3 y4
    have c4 : wr.cell? ⟨g, 4, none⟩ = some _ := HM.out.cell 4 (by omega)
    have c5 : wr.cell? ⟨g, 5, none⟩ = some _ := HM.out.cell 5 (by omega)
    have c13 : wr.cell? ⟨g, 13, none⟩ = some _ := HM.out.cell 13 (by omega)
    have c38 : wr.cell? ⟨g, 38, none⟩ = some _ := HM.out.cell 38 (by omega)
    have c39 : wr.cell? ⟨g, 39, none⟩ = some _ := HM.out.cell 39 (by omega)
    have e4 := HM.out.frozen 4
    have e5 := HM.out.frozen 5
    have e13 := HM.out.frozen 13
    have e38 := HM.out.frozen 38
    have e39 := HM.out.frozen 39
    have hm4 := mb_setr (mb_setr (mb_setr HM.out 1 (by omega) 412316860416#64 412316860416 rfl) 2 (by omega) 2147418112#64 2147418112 rfl) 10 (by omega) 65536#64 65536 rfl
    rw [entry_upto lr i HX.out] at hm4
    have HM4 := Aside0.mk (show MB 76 41 (((wr.setCell ⟨g, 4, none⟩ (.int .u64 412316860416)).setCell ⟨g, 5, none⟩ (.int .u64 2147418112)).setCell ⟨g, 13, none⟩ (.int .u64 65536)) g _ from hm4)
    have hk4 : ∀ k, k < g → ((((wr.setCell ⟨g, 4, none⟩ (.int .u64 412316860416)).setCell ⟨g, 5, none⟩ (.int .u64 2147418112)).setCell ⟨g, 13, none⟩ (.int .u64 65536))).heap[k]? = wr.heap[k]? := fun k hk => by
     have hne : k ≠ g := Nat.ne_of_lt hk
     exact (Below.heap_setCell _ _ _ k hne).trans ((Below.heap_setCell _ _ _ k hne).trans (Below.heap_setCell _ _ _ k hne))
    have HP4 := Aside0.mk (HP.out.step hk4)
    have hgw : w.heap.size ≤ g := Nat.le_of_lt HEG.out
    have HB4 := Aside0.mk (show Below w.heap.size w (((wr.setCell ⟨g, 4, none⟩ (.int .u64 412316860416)).setCell ⟨g, 5, none⟩ (.int .u64 2147418112)).setCell ⟨g, 13, none⟩ (.int .u64 65536)) from ((HL.out.setCell (p := ⟨g, 4, none⟩) hgw _).setCell (p := ⟨g, 5, none⟩) hgw _).setCell (p := ⟨g, 13, none⟩) hgw _)
    have y3b : ((((wr.setCell ⟨g, 4, none⟩ (.int .u64 412316860416)).setCell ⟨g, 5, none⟩ (.int .u64 2147418112)).setCell ⟨g, 13, none⟩ (.int .u64 65536))).cell? ⟨w.heap.size, 3, none⟩ = some (.slice sA nS sc) := (congrArg _ rfl : _ = _).trans ((blk_cell ((hk4 _ HEG.out).trans HENV.out) 3).trans (by simp))
    have y4b : ((((wr.setCell ⟨g, 4, none⟩ (.int .u64 412316860416)).setCell ⟨g, 5, none⟩ (.int .u64 2147418112)).setCell ⟨g, 13, none⟩ (.int .u64 65536))).cell? ⟨w.heap.size, 4, none⟩ = some (.int .i64 fr) := (congrArg _ rfl : _ = _).trans ((blk_cell ((hk4 _ HEG.out).trans HENV.out) 4).trans (by simp))
    clear hm4 hk4 hgw HM HP HL HENV
    by_cases h32 : i = 32
    · have s1 : decide ((i : Int) < 32) = false := decide_eq_false (by omega)
      have u1 : ((i : Int) < 32) = False := eq_false (by omega)
      clear hc h32 x2
      by_cases hneg : fr < 0
      · have hbig := hneg
        have t1 : decide (fr < 0) = true := decide_eq_true hneg
        have HO := Aside0.mk (outR_bad (lr := lr) (ls := ls) (fr := fr) HP4.out HCD.out HM4.out (.inl hneg) HBD.out)
        have HBF := Aside0.mk ((HB4.out.setCell (p := ⟨g, 38, none⟩) (Nat.le_of_lt HEG.out) (.bool true)).setCell (p := ⟨g, 39, none⟩) (Nat.le_of_lt HEG.out) (.int .i64 1))
        clear hneg hbig
        go_wp2_with fail
        go_ret
        exact ⟨g, _, _, rfl, HO.out, HBF.out⟩
      by_cases hbig : 1048576 < fr
      · have t1 : decide (fr < 0) = false := decide_eq_false hneg
        have t2 : decide (fr > 1048576) = true := decide_eq_true hbig
        have t3 : decide (1048576 < fr) = true := decide_eq_true hbig
        have HO := Aside0.mk (outR_bad (lr := lr) (ls := ls) (fr := fr) HP4.out HCD.out HM4.out (.inr hbig) HBD.out)
        have HBF := Aside0.mk ((HB4.out.setCell (p := ⟨g, 38, none⟩) (Nat.le_of_lt HEG.out) (.bool true)).setCell (p := ⟨g, 39, none⟩) (Nat.le_of_lt HEG.out) (.int .i64 1))
        clear hneg hbig
        go_wp2_with fail
        go_ret
        exact ⟨g, _, _, rfl, HO.out, HBF.out⟩
      · have t1 : decide (fr < 0) = false := decide_eq_false hneg
        have t2 : decide (fr > 1048576) = false := decide_eq_false hbig
        have t3 : decide (1048576 < fr) = false := decide_eq_false hbig
        have HNB := Aside0.mk (show ¬ bad fr from by unfold bad; omega)
        have HF := Aside0.mk (HS34.out (((wr.setCell ⟨g, 4, none⟩ (.int .u64 412316860416)).setCell ⟨g, 5, none⟩ (.int .u64 2147418112)).setCell ⟨g, 13, none⟩ (.int .u64 65536)) HB4.out (by omega) (by omega))
        clear hneg hbig HS34 c38 c39 e38 e39
        go_wp2_with fail
        refine HF.out.mono ?_
        rintro e W5 ⟨f, rfl, hf⟩
        obtain ⟨Af, nf, cf, ef⟩ : ∃ Af nf cf, f = .slice Af nf cf := by
         obtain ⟨A, c, e, _⟩ := hf.1
         exact ⟨A, _, c, e⟩
        subst ef
        have HO := Aside0.mk (outR_ok (lr := lr) (fr := fr) HP4.out HCD.out HM4.out HNB.out HBD.out HBS.out hf)
        have HBF := Aside0.mk ((below_step HB4.out hf.2.2).setCell (p := ⟨g, 2, none⟩) (Nat.le_of_lt HEG.out) (.slice Af nf cf))
        have c2 : W5.cell? ⟨g, 2, none⟩ = some (.slice none 0 0) := (HM4.out.below hf.2.2).cell 2 (by omega)
        have e2 := (HM4.out.below hf.2.2).frozen 2
        clear hf
        go_wp2_with fail
        go_ret
        exact ⟨g, _, _, rfl, HO.out, HBF.out⟩
    · have s1 : decide ((i : Int) < 32) = true := decide_eq_true (by omega)
      have s2 : decide ((i : Int) < (nR : Int)) = false := decide_eq_false (by omega)
      have u1 : ((i : Int) < 32) = True := eq_true (by omega)
      have u2 : ((i : Int) < (nR : Int)) = False := eq_false (by omega)
      clear hc h32
      by_cases hneg : fr < 0
      · have hbig := hneg
        have t1 : decide (fr < 0) = true := decide_eq_true hneg
        have HO := Aside0.mk (outR_bad (lr := lr) (ls := ls) (fr := fr) HP4.out HCD.out HM4.out (.inl hneg) HBD.out)
        have HBF := Aside0.mk ((HB4.out.setCell (p := ⟨g, 38, none⟩) (Nat.le_of_lt HEG.out) (.bool true)).setCell (p := ⟨g, 39, none⟩) (Nat.le_of_lt HEG.out) (.int .i64 1))
        clear hneg hbig
        go_wp2_with fail
        go_ret
        exact ⟨g, _, _, rfl, HO.out, HBF.out⟩
      by_cases hbig : 1048576 < fr
      · have t1 : decide (fr < 0) = false := decide_eq_false hneg
        have t2 : decide (fr > 1048576) = true := decide_eq_true hbig
        have t3 : decide (1048576 < fr) = true := decide_eq_true hbig
        have HO := Aside0.mk (outR_bad (lr := lr) (ls := ls) (fr := fr) HP4.out HCD.out HM4.out (.inr hbig) HBD.out)
        have HBF := Aside0.mk ((HB4.out.setCell (p := ⟨g, 38, none⟩) (Nat.le_of_lt HEG.out) (.bool true)).setCell (p := ⟨g, 39, none⟩) (Nat.le_of_lt HEG.out) (.int .i64 1))
        clear hneg hbig
        go_wp2_with fail
        go_ret
        exact ⟨g, _, _, rfl, HO.out, HBF.out⟩
      · have t1 : decide (fr < 0) = false := decide_eq_false hneg
        have t2 : decide (fr > 1048576) = false := decide_eq_false hbig
        have t3 : decide (1048576 < fr) = false := decide_eq_false hbig
        have HNB := Aside0.mk (show ¬ bad fr from by unfold bad; omega)
        have HF := Aside0.mk (HS34.out (((wr.setCell ⟨g, 4, none⟩ (.int .u64 412316860416)).setCell ⟨g, 5, none⟩ (.int .u64 2147418112)).setCell ⟨g, 13, none⟩ (.int .u64 65536)) HB4.out (by omega) (by omega))
        clear hneg hbig HS34 c38 c39 e38 e39
        go_wp2_with fail
        refine HF.out.mono ?_
        rintro e W5 ⟨f, rfl, hf⟩
        obtain ⟨Af, nf, cf, ef⟩ : ∃ Af nf cf, f = .slice Af nf cf := by
         obtain ⟨A, c, e, _⟩ := hf.1
         exact ⟨A, _, c, e⟩
        subst ef
        have HO := Aside0.mk (outR_ok (lr := lr) (fr := fr) HP4.out HCD.out HM4.out HNB.out HBD.out HBS.out hf)
        have HBF := Aside0.mk ((below_step HB4.out hf.2.2).setCell (p := ⟨g, 2, none⟩) (Nat.le_of_lt HEG.out) (.slice Af nf cf))
        have c2 : W5.cell? ⟨g, 2, none⟩ = some (.slice none 0 0) := (HM4.out.below hf.2.2).cell 2 (by omega)
        have e2 := (HM4.out.below hf.2.2).frozen 2
        clear hf
        go_wp2_with fail
        go_ret
        exact ⟨g, _, _, rfl, HO.out, HBF.out⟩
end Go.Proofs.YtcgkgaibomcheaaGreat.RNew
end
section
namespace Go.Proofs.YtcgkgaibomcheaaGreat.ROut
open Go.RowKit Bits Mac Mb Rd RDec EM RM EOut PRvemuRuns YtcgkgaibomcheaaGreatW.PrintWords YtcgkgaibomcheaaGreatW.PrintLast YtcgkgaibomcheaaGreatW.PrintMore
def rows (X : Nat → Int) (i : Nat) : List Int := (List.range i).map X
theorem rows_len (X : Nat → Int) (i : Nat) : (rows X i).length = i := by unfold rows; rw [List.length_map, List.length_range]
theorem rows_succ (X : Nat → Int) (i : Nat) : rows X (i + 1) = rows X i ++ [X i] := by unfold rows; rw [List.range_succ, List.map_append]; rfl
set_option maxRecDepth 20000 in
set_option maxHeartbeats 2000000 in
theorem outcome (g : Nat) (m : Mac) (c d f : Value) (At : Option Addr) (T ct : Nat) (w : World) (h : MB 76 41 w g (vals m c d f (.slice At T ct) undef)) :
 Calls Tryz.prog 22 #[.pointer (some ⟨g, 0, none⟩)] w fun e w' => ∃ vr : Value, e = .returned (.agg #[.int .i64 m.err, .int .i64 (atOf m), .int .i64 m.steps, vr, .slice At T ct]) ∧ Kd.R (Kd.int .u64) 52 w' w.heap.size (fun _ => True) vr (regsOf m) ∧ Below w.heap.size w w' := by
 have hbz := below_alloc (Below.refl w.heap.size w) (.cells #[.int .i64 0, .int .i64 0, .int .i64 0, .slice none 0 0, .slice none 0 0] 31)
 have HH := Aside0.mk (h.below hbz)
 have HOW := Aside0.mk (blk_new w (.cells #[.int .i64 0, .int .i64 0, .int .i64 0, .slice none 0 0, .slice none 0 0] 31))
 have HG := Aside0.mk h.lt
 have HB := Aside0.mk hbz
 clear h hbz
 have HSZ := Aside0.mk (show w.heap.size < (w.alloc (.cells #[.int .i64 0, .int .i64 0, .int .i64 0, .slice none 0 0, .slice none 0 0] 31)).heap.size from by rw [World.size_alloc]; omega)
 obtain ⟨W0, hW0⟩ : ∃ W0, w.alloc (.cells #[.int .i64 0, .int .i64 0, .int .i64 0, .slice none 0 0, .slice none 0 0] 31) = W0 := ⟨_, rfl⟩
 rw [hW0] at HH HOW HB HSZ
 have HW0 := Aside0.mk hW0
 clear hW0
 have x39 : W0.cell? ⟨g, 39, none⟩ = some (.int .i64 m.err) := HH.out.cell 39 (by omega)
 have x37 : W0.cell? ⟨g, 37, none⟩ = some (.int .i64 m.steps) := HH.out.cell 37 (by omega)
 have x40 : W0.cell? ⟨g, 40, none⟩ = some (.slice At T ct) := HH.out.cell 40 (by omega)
 have HGP := Aside0.mk (show ∀ pb : Nat, W0.heap.size ≤ pb → g ≠ pb from fun pb hp => by have := HG.out; have := HSZ.out; omega)
 have HPL := Aside0.mk (fun (W1 : World) (hb : Below W0.heap.size W0 W1) => Ends.place_ref g _ m.pc W1 (HH.out.below hb) rfl)
 have hat : atOf m = if m.err = 0 then 0 else Ends.place m.pc := rfl
 have HAT := Aside0.mk (show (m.err = 0 → atOf m = 0) ∧ (m.err ≠ 0 → atOf m = Ends.place m.pc) from ⟨fun h => hat.trans (if_pos h), fun h => hat.trans (if_neg h)⟩)
 clear hat
 generalize atOf m = at_ at *
 generalize Ends.place m.pc = pl at *
 obtain ⟨X, hX⟩ : ∃ X : Nat → Int, X = fun i => U (m.x i) := ⟨_, rfl⟩
 have hrg : regsOf m = rows X 32 := by rw [hX]; rfl
 have HMXW := Aside0.mk (show ∀ i, i < 32 → ∀ W1, Below W0.heap.size W0 W1 → W1.cell? ⟨g, 3 + i, none⟩ = some (.int .u64 (X i)) from fun i hi W1 hb => by
  rw [hX]
  exact ((HH.out.below hb).cell (3 + i) (by omega)).trans (congrArg some (vals_x _ _ _ _ _ _ _ hi)))
 rw [hrg]
 clear hrg hX
 have L := below_drew1 (Below.refl W0.heap.size W0)
 generalize m.err = er at *
 generalize m.steps = st at *
 clear HH
 go_enter Tryz.func22, Tryz.ntmps22
 go_wp2_with fail
 rw [HW0.out]
 clear HW0
 refine start_ (n := 15) (S := fun w' => w'.cell? ⟨g, 39, none⟩ = some (.int .i64 er) ∧ w'.cell? ⟨g, 37, none⟩ = some (.int .i64 st) ∧ w'.cell? ⟨g, 40, none⟩ = some (.slice At T ct)) (ds := []) #[vF,vF,vF,vF,vF,vF,vF,vF,vF,vF,vF,vF,vF,vF,vF] (by kernel_rfl) rfl rfl ⟨kB L x39, kB L x37, kB L x40⟩ (fun hHeld => ?_)
 refine pure_ (i := 0) (N := some 5) (v := ?_) (a' := ?_) #[vT,vF,vF,vF,vF,vF,vF,vF,vF,vF,vF,vF,vF,vF,vF] rfl rfl (by kernel_rfl) (fun _ _ _ h => h) (Or.inl ⟨by rfl, ?_⟩) ?_ ?_
 rotate_left
 · intro w'; go_simp; with_reducible rfl
 rotate_left
 · simp only [Act.put, List.setIfInBounds_toArray, List.set, i64_w, i32_w]
   rfl
 refine pure_ (i := 1) (N := some 6) (v := ?_) (a' := ?_) #[vT,vT,vF,vF,vF,vF,vF,vF,vF,vF,vF,vF,vF,vF,vF] rfl rfl (by kernel_rfl) (fun _ _ _ h => h) (Or.inl ⟨by rfl, ?_⟩) ?_ ?_
 rotate_left
 · intro w'; go_simp; with_reducible rfl
 rotate_left
 · simp only [Act.put, List.setIfInBounds_toArray, List.set, i64_w, i32_w]
   rfl
 refine pure_ (i := 2) (N := some 7) (v := ?_) (a' := ?_) #[vT,vT,vT,vF,vF,vF,vF,vF,vF,vF,vF,vF,vF,vF,vF] rfl rfl (by kernel_rfl) (fun _ _ _ h => h) (Or.inl ⟨by rfl, ?_⟩) ?_ ?_
 rotate_left
 · intro w'; go_simp; with_reducible rfl
 rotate_left
 · simp only [Act.put, List.setIfInBounds_toArray, List.set, i64_w, i32_w]
   rfl
 refine pure_ (i := 4) (N := some 9) (v := ?_) (a' := ?_) #[vT,vT,vT,vF,vT,vF,vF,vF,vF,vF,vF,vF,vF,vF,vF] rfl rfl (by kernel_rfl) (fun _ _ _ h => h) (Or.inl ⟨by rfl, ?_⟩) ?_ ?_
 rotate_left
 · intro w'; go_simp; with_reducible rfl
 rotate_left
 · simp only [Act.put, List.setIfInBounds_toArray, List.set, i64_w, i32_w]
   rfl
 refine pure_ (i := 5) (N := some 10) (v := ?_) (a' := ?_) #[vT,vT,vT,vF,vT,vT,vF,vF,vF,vF,vF,vF,vF,vF,vF] rfl rfl (by kernel_rfl) (fun _ _ _ h => h) (Or.inl ⟨by rfl, ?_⟩) ?_ ?_
 rotate_left
 · intro w'; go_simp; with_reducible rfl
 rotate_left
 · simp only [Act.put, List.setIfInBounds_toArray, List.set, i64_w, i32_w]
   rfl
 refine pure_ (i := 6) (N := some 11) (v := ?_) (a' := ?_) #[vT,vT,vT,vF,vT,vT,vT,vF,vF,vF,vF,vF,vF,vF,vF] rfl rfl (by kernel_rfl) (fun _ _ _ h => h) (Or.inl ⟨by rfl, ?_⟩) ?_ ?_
 rotate_left
 · intro w'; go_simp; with_reducible rfl
 rotate_left
 · simp only [Act.put, List.setIfInBounds_toArray, List.set, i64_w, i32_w]
   rfl
 refine pure_ (i := 8) (N := some 13) (v := ?_) (a' := ?_) #[vT,vT,vT,vF,vT,vT,vT,vF,vT,vF,vF,vF,vF,vF,vF] rfl rfl (by kernel_rfl) (fun _ _ _ h => h) (Or.inl ⟨by rfl, ?_⟩) ?_ ?_
 rotate_left
 · intro w'; go_simp; with_reducible rfl
 rotate_left
 · simp only [Act.put, List.setIfInBounds_toArray, List.set, i64_w, i32_w]
   rfl
 refine pure_ (i := 9) (N := some 14) (v := ?_) (a' := ?_) #[vT,vT,vT,vF,vT,vT,vT,vF,vT,vT,vF,vF,vF,vF,vF] rfl rfl (by kernel_rfl) (fun _ _ _ h => h) (Or.inl ⟨by rfl, ?_⟩) ?_ ?_
 rotate_left
 · intro w'; go_simp; with_reducible rfl
 rotate_left
 · simp only [Act.put, List.setIfInBounds_toArray, List.set, i64_w, i32_w]
   rfl
 refine pure_ (i := 10) (N := some 15) (v := ?_) (a' := ?_) #[vT,vT,vT,vF,vT,vT,vT,vF,vT,vT,vT,vF,vF,vF,vF] rfl rfl (by kernel_rfl) (fun _ _ _ h => h) (Or.inl ⟨by rfl, ?_⟩) ?_ ?_
 rotate_left
 · intro w'; go_simp; with_reducible rfl
 rotate_left
 · simp only [Act.put, List.setIfInBounds_toArray, List.set, i64_w, i32_w]
   rfl
 refine take_ (i := 3) (N := some 8) (v := ?_) (a' := ?_) #[vT,vT,vT,vT,vT,vT,vT,vF,vT,vT,vT,vF,vF,vF,vF] rfl rfl (by kernel_rfl) (fun _ _ _ h => h) (Or.inl ⟨by rfl, ?_⟩) hHeld ?_ ?_
 rotate_left
 · rintro w' ⟨s0, s1, s2⟩; go_simp; with_reducible rfl
 rotate_left
 · simp only [Act.put, List.setIfInBounds_toArray, List.set, i64_w, i32_w]
   rfl
 refine take_ (i := 7) (N := some 12) (v := ?_) (a' := ?_) #[vT,vT,vT,vT,vT,vT,vT,vT,vT,vT,vT,vF,vF,vF,vF] rfl rfl (by kernel_rfl) (fun _ _ _ h => h) (Or.inl ⟨by rfl, ?_⟩) hHeld ?_ ?_
 rotate_left
 · rintro w' ⟨s0, s1, s2⟩; go_simp; with_reducible rfl
 rotate_left
 · simp only [Act.put, List.setIfInBounds_toArray, List.set, i64_w, i32_w]
   rfl
 refine take_ (i := 11) (N := some 16) (v := ?_) (a' := ?_) #[vT,vT,vT,vT,vT,vT,vT,vT,vT,vT,vT,vT,vF,vF,vF] rfl rfl (by kernel_rfl) (fun _ _ _ h => h) (Or.inl ⟨by rfl, ?_⟩) hHeld ?_ ?_
 rotate_left
 · rintro w' ⟨s0, s1, s2⟩; go_simp; with_reducible rfl
 rotate_left
 · simp only [Act.put, List.setIfInBounds_toArray, List.set, i64_w, i32_w]
   rfl
 refine pure_ (i := 12) (N := some 17) (v := ?_) (a' := ?_) #[vT,vT,vT,vT,vT,vT,vT,vT,vT,vT,vT,vT,vT,vF,vF] rfl rfl (by kernel_rfl) (fun _ _ _ h => h) (Or.inl ⟨by rfl, ?_⟩) ?_ ?_
 rotate_left
 · intro w'; go_simp; with_reducible rfl
 rotate_left
 · simp only [Act.put, List.setIfInBounds_toArray, List.set, i64_w, i32_w]
   rfl
 refine one_ (i := 13) (N := some 3) #[vT,vT,vT,vT,vT,vT,vT,vT,vT,vT,vT,vT,vT,vT,vF] rfl rfl (by kernel_rfl) (by decide) (fun K hK => ?_)
 refine value_ (w1 := ?_) (v := ?_) (by rfl) rfl ?_ ?_
 rotate_left 2
 · go_simp
   constructor
   · rfl
   · rfl
 have hle := below_size L
 have ha := Aside0.mk (show (W0.alloc (.cells #[.int .i64 0, .int .i64 0, .int .i64 0, .slice none 0 0, .slice none 0 0] 31)).drew.heap[W0.heap.size]? = some (.cells #[.int .i64 0, .int .i64 0, .int .i64 0, .slice none 0 0, .slice none 0 0] 31 (0, 0)) from blk_new W0 _)
 have L : Below W0.heap.size W0 (W0.alloc (.cells #[.int .i64 0, .int .i64 0, .int .i64 0, .slice none 0 0, .slice none 0 0] 31)).drew := below_drew1 (below_alloc (Below.refl _ _) _)
 obtain ⟨w11, hw11⟩ : ∃ w11, (W0.alloc (.cells #[.int .i64 0, .int .i64 0, .int .i64 0, .slice none 0 0, .slice none 0 0] 31)).drew = w11 := ⟨_, rfl⟩
 have ha := ha.out
 rw [hw11] at ha L
 have ha := Aside0.mk ha
 have hle := Nat.le_refl W0.heap.size
 refine NewE.swapw (W := w11) hw11.symm ?_
 refine hK.out _ _ ⟨kB L x39, kB L x37, kB L x40⟩ (fun hHeld => ?_)
 clear hK K
 refine norm_ (a' := ?_) ?_ ?_
 rotate_left
 · show Act.put _ (some 3) _ = _; simp only [Act.put, List.setIfInBounds_toArray, List.set, i64_w, i32_w]; rfl
 refine one_ (i := 14) (N := none) #[vT,vT,vT,vT,vT,vT,vT,vT,vT,vT,vT,vT,vT,vT,vT] rfl rfl (by kernel_rfl) (by decide) (fun K hK => ?_)
 have z0 := blk_cell ha.out 0
 have z1 := blk_cell ha.out 1
 have z2 := blk_cell ha.out 2
 have z3 := blk_cell ha.out 3
 have z4 := blk_cell ha.out 4
 simp only [List.getElem?_toArray, List.getElem?_cons_zero, List.getElem?_cons_succ] at z0 z1 z2 z3 z4
 have f0_ := blk_frozen ha.out 0
 have f1_ := blk_frozen ha.out 1
 have f2_ := blk_frozen ha.out 2
 have f3_ := blk_frozen ha.out 3
 have f4_ := blk_frozen ha.out 4
 refine skip_ (w1 := ?_) (by rfl) rfl ?_ ?_
 rotate_left
 · go_simp
   rfl
 refine hK.out _ _ ⟨kS5 (HGP.out _ hle) hHeld.1, kS5 (HGP.out _ hle) hHeld.2.1, kS5 (HGP.out _ hle) hHeld.2.2⟩ (fun hHeld => ?_)
 clear hK K
 refine done_ (by kernel_rfl) ?_
 change Exit.then _ _ _ _ (put5 w11 W0.heap.size (.int .i64 er) (.int .i64 0) (.int .i64 st) (.slice none 0 0) (.slice At T ct))
 have y39 : (put5 w11 W0.heap.size (.int .i64 er) (.int .i64 0) (.int .i64 st) (.slice none 0 0) (.slice At T ct)).cell? ⟨g, 39, none⟩ = some (.int .i64 er) := by unfold put5; exact hHeld.1
 have HA := Aside0.mk (put5_block ha.out (.int .i64 er) (.int .i64 0) (.int .i64 st) (.slice none 0 0) (.slice At T ct))
 have HLW := Aside0.mk (put5_below (.int .i64 er) (.int .i64 0) (.int .i64 st) (.slice none 0 0) (.slice At T ct) L (Nat.le_refl _))
 clear hHeld ha hle z0 z1 z2 z3 z4 f0_ f1_ f2_ f3_ f4_ x39 x37 x40 HGP L hw11
 generalize (put5 w11 W0.heap.size (.int .i64 er) (.int .i64 0) (.int .i64 st) (.slice none 0 0) (.slice At T ct)) = W12 at *
 by_cases he : er = 0
 · subst he
   have HE := HAT.out.1 rfl
   clear HAT HPL
   subst HE
   go_wp2_with fail
   clear y39
   go_loopw [4] (fun v4 W => ∃ (i : Nat) (Ar : Option Addr) (cr : Nat), v4 = .int .i64 (i : Int) ∧ i ≤ 32 ∧ Aside0 (W.heap[W0.heap.size]? = some (.cells #[(.int .i64 0), (.int .i64 0), .int .i64 st, .slice Ar i cr, .slice At T ct] 31 (0, 0))) ∧ Aside0 (Kd.R (Kd.int .u64) 52 W W0.heap.size (fun _ => True) (.slice Ar i cr) (rows X i)) ∧ Aside0 (Below W0.heap.size W0 W)) (fun v4 _ => 32 - (intOf v4).toNat)
   case atStart => exact ⟨0, none, 0, rfl, by omega, HA, ⟨Kd.R_nil _ _ _ _ _⟩, HLW⟩
   case round =>
    clear HA HLW
    obtain ⟨i, Ar, cr, rfl, hi, HA, HR, HBW⟩ := hrel
    by_cases hlt : i < 32
    · have t1 : decide ((i : Int) < 32) = true := decide_eq_true (by omega)
      have u1 : ((i : Int) < 32) = True := eq_true (by omega)
      have x3 := blk_cell HA.out 3
      simp only [List.getElem?_toArray, List.getElem?_cons_zero, List.getElem?_cons_succ] at x3
      have xg := HMXW.out i hlt wr HBW.out
      have HMX := Aside0.mk (HMXW.out i hlt)
      have HI := Aside0.mk hlt
      have HSI := Aside0.mk (show W0.heap.size ≤ wr.drew.heap.size from HBW.out.size)
      have HLN := Aside0.mk (show ((rows X i).length + 1) * 8 ≤ 140737488355328 from by rw [rows_len]; omega)
      have HPB2 := Aside0.mk (show ∀ w39, wr.drew.grownBy w39 (Value.slice Ar i cr).ownBlock → w39.cell? ⟨W0.heap.size, 3, none⟩ = some (.slice Ar i cr) ∧ w39.frozen? ⟨W0.heap.size, 3, none⟩ = false ∧ w39.heap[W0.heap.size]? = some (.cells #[(.int .i64 0), (.int .i64 0), .int .i64 st, .slice Ar i cr, .slice At T ct] 31 (0, 0)) from fun w39 hg => by
       have hne : some W0.heap.size ≠ (Value.slice Ar i cr).ownBlock := fun e => by
        obtain ⟨cs, hcs⟩ := Kd.R_typed HR.out _ e.symm
        rw [HA.out] at hcs
        injection hcs with hcs
        injection hcs with _ h2
        exact absurd h2 (by decide)
       have hx := blk_grown (w := wr.drew) HA.out hg hne
       exact ⟨(blk_cell hx 3).trans (by simp), blk_frozen hx 3, hx⟩)
      clear hlt
      go_wp2_with fail
      refine start_ (n := 12) (S := fun w' => w'.cell? ⟨W0.heap.size, 3, none⟩ = some (.slice Ar i cr) ∧ w'.cell? ⟨g, 3 + i, none⟩ = some (.int .u64 (X i))) (ds := [11]) #[vF,vF,vF,vF,vF,vF,vF,vF,vF,vF,vF,vF] (by kernel_rfl) rfl rfl ⟨x3, xg⟩ (fun hHeld => ?_)
      refine pure_ (i := 0) (N := some 30) (v := ?_) (a' := ?_) #[vT,vF,vF,vF,vF,vF,vF,vF,vF,vF,vF,vF] rfl rfl (by kernel_rfl) (fun _ _ _ h => h) (Or.inl ⟨by rfl, ?_⟩) ?_ ?_
      rotate_left
      · intro w'; go_simp; with_reducible rfl
      rotate_left
      · simp only [Act.put, List.setIfInBounds_toArray, List.set, i64_w, i32_w]
        rfl
      refine pure_ (i := 2) (N := some 32) (v := ?_) (a' := ?_) #[vT,vF,vT,vF,vF,vF,vF,vF,vF,vF,vF,vF] rfl rfl (by kernel_rfl) (fun _ _ _ h => h) (Or.inl ⟨by rfl, ?_⟩) ?_ ?_
      rotate_left
      · intro w'; go_simp; with_reducible rfl
      rotate_left
      · simp only [Act.put, List.setIfInBounds_toArray, List.set, i64_w, i32_w]
        rfl
      refine pure_ (i := 3) (N := some 33) (v := ?_) (a' := ?_) #[vT,vF,vT,vT,vF,vF,vF,vF,vF,vF,vF,vF] rfl rfl (by kernel_rfl) (fun _ _ _ h => h) (Or.inl ⟨by rfl, ?_⟩) ?_ ?_
      rotate_left
      · intro w'; go_simp; with_reducible rfl
      rotate_left
      · simp only [Act.put, List.setIfInBounds_toArray, List.set, i64_w, i32_w]
        rfl
      refine pure_ (i := 4) (N := some 34) (v := ?_) (a' := ?_) #[vT,vF,vT,vT,vT,vF,vF,vF,vF,vF,vF,vF] rfl rfl (by kernel_rfl) (fun _ _ _ h => h) (Or.inl ⟨by rfl, ?_⟩) ?_ ?_
      rotate_left
      · intro w'; go_simp; with_reducible rfl
      rotate_left
      · simp only [Act.put, List.setIfInBounds_toArray, List.set, i64_w, i32_w]
        rfl
      refine pure_ (i := 5) (N := some 35) (v := ?_) (a' := ?_) #[vT,vF,vT,vT,vT,vT,vF,vF,vF,vF,vF,vF] rfl rfl (by kernel_rfl) (fun _ _ _ h => h) (Or.inl ⟨by rfl, ?_⟩) ?_ ?_
      rotate_left
      · intro w'; go_simp; with_reducible rfl
      rotate_left
      · simp only [Act.put, List.setIfInBounds_toArray, List.set, i64_w, i32_w]
        rfl
      refine pure_ (i := 6) (N := some 36) (v := ?_) (a' := ?_) #[vT,vF,vT,vT,vT,vT,vT,vF,vF,vF,vF,vF] rfl rfl (by kernel_rfl) (fun _ _ _ h => h) (Or.inl ⟨by rfl, ?_⟩) ?_ ?_
      rotate_left
      · intro w'; go_simp; with_reducible rfl
      rotate_left
      · simp only [Act.put, List.setIfInBounds_toArray, List.set, i64_w, i32_w]
        rfl
      refine take_ (i := 1) (N := some 31) (v := ?_) (a' := ?_) #[vT,vT,vT,vT,vT,vT,vT,vF,vF,vF,vF,vF] rfl rfl (by kernel_rfl) (fun _ _ _ h => h) (Or.inl ⟨by rfl, ?_⟩) hHeld ?_ ?_
      rotate_left
      · rintro w' ⟨s0, s1⟩; go_simp; with_reducible rfl
      rotate_left
      · simp only [Act.put, List.setIfInBounds_toArray, List.set, i64_w, i32_w]
        rfl
      refine take_ (i := 7) (N := some 37) (v := ?_) (a' := ?_) #[vT,vT,vT,vT,vT,vT,vT,vT,vF,vF,vF,vF] rfl rfl (by kernel_rfl) (fun _ _ _ h => h) (Or.inl ⟨by rfl, ?_⟩) hHeld ?_ ?_
      rotate_left
      · rintro w' ⟨s0, s1⟩; go_simp; with_reducible rfl
      rotate_left
      · simp only [Act.put, List.setIfInBounds_toArray, List.set, i64_w, i32_w]
        rfl
      refine one_ (i := 8) (N := some 38) #[vT,vT,vT,vT,vT,vT,vT,vT,vT,vF,vF,vF] rfl rfl (by kernel_rfl) (by decide) (fun K hK => ?_)
      refine value_ (w1 := ?_) (v := ?_) (by rfl) rfl ?_ ?_
      rotate_left 2
      · go_simp
        constructor
        · rfl
        · rfl
      have L8 := below_alloc (Below.refl wr.drew.heap.size wr.drew) (.cells #[.int .u64 (X i)] 52)
      refine hK.out _ _ ⟨kB L8 hHeld.1, kB L8 hHeld.2⟩ (fun hHeld => ?_)
      clear hK K
      refine norm_ (a' := ?_) ?_ ?_
      rotate_left
      · show Act.put _ (some 38) _ = _; simp only [Act.put, List.setIfInBounds_toArray, List.set, i64_w, i32_w]; rfl
      refine one_ (i := 9) (N := some 39) #[vT,vT,vT,vT,vT,vT,vT,vT,vT,vT,vF,vF] rfl rfl (by kernel_rfl) (by decide) (fun K hK => ?_)
      refine Kd.R_append_step (Kd.int .u64) (w0 := W0) W0.heap.size (by rfl) (.tmp 31) (.tmp 38) 23 52 (.int .u64 0) 8 rfl Tryz.underlying23 Clone.inf52 rfl (by decide) (by omega) (.slice Ar i cr) (rows X i) (X i) [.int .u64 (X i)] (fun _ => True) (fun _ => False) rfl rfl rfl (fun _ h => h.elim) (fun _ _ => trivial) (Kd.R_drew HR.out) (below_drew1 HBW.out) HSI.out HLN.out ?_
      intro v39 w39 ho39 hb39 hg39 hat39
      rw [← rows_succ] at ho39
      obtain ⟨A39, c39, e39⟩ := Kd.R_slice ho39
      rw [rows_len] at e39
      subst e39
      have HO39 := Aside0.mk ho39
      have HB39 := Aside0.mk hb39
      have HG39 := Aside0.mk hg39
      clear ho39 hb39 hg39 hat39
      have hpb := HPB2.out w39 HG39.out
      refine hK.out _ _ ⟨hpb.1, HMX.out w39 HB39.out⟩ (fun hHeld => ?_)
      clear hK K
      refine norm_ (a' := ?_) ?_ ?_
      rotate_left
      · show Act.put _ (some 39) _ = _; simp only [Act.put, List.setIfInBounds_toArray, List.set, i64_w, i32_w]; rfl
      refine pure_ (i := 10) (N := some 40) (v := ?_) (a' := ?_) #[vT,vT,vT,vT,vT,vT,vT,vT,vT,vT,vT,vF] rfl rfl (by kernel_rfl) (fun _ _ _ h => h) (Or.inl ⟨by rfl, ?_⟩) ?_ ?_
      rotate_left
      · intro w'; go_simp; with_reducible rfl
      rotate_left
      · simp only [Act.put, List.setIfInBounds_toArray, List.set, i64_w, i32_w]
        rfl
      refine last_ (i := 11) (N := none) #[vT,vT,vT,vT,vT,vT,vT,vT,vT,vT,vT,vT] rfl rfl (by kernel_rfl) (by decide) (fun K hK => ?_)
      have z3 := hpb.1
      have f3 := hpb.2.1
      refine skip_ (w1 := ?_) (by rfl) rfl ?_ ?_
      rotate_left
      · go_simp
        rfl
      refine hK.out _ _ ?_
      clear hK K
      refine done_ (by kernel_rfl) ?_
      have HA2 := Aside0.mk (blk_put (cs' := #[(.int .i64 0), (.int .i64 0), .int .i64 st, .slice A39 (i + 1) c39, .slice At T ct]) hpb.2.2 3 (.slice A39 (i + 1) c39) rfl)
      have HR2 := Aside0.mk (Kd.R_set HO39.out hpb.2.2 (by decide) 3 (.slice A39 (i + 1) c39))
      have HBW2 := Aside0.mk (HB39.out.setCell (p := ⟨W0.heap.size, 3, none⟩) (Nat.le_refl _) (.slice A39 (i + 1) c39))
      have hi3 := HI.out
      clear hpb z3 f3 x3 xg HA HR HBW HO39 HB39 HG39 HPB2 HMX t1 u1 L8
      go_wp2
      exact ⟨⟨i + 1, A39, c39, by go_num, by omega, HA2, HR2, HBW2⟩, by simp [intOf]; omega⟩
    · obtain rfl : i = 32 := by omega
      have HOW2 := Aside0.mk (blk_below HOW.out HBW.out)
      have o0_ := blk_cell HOW2.out 0
      have o1_ := blk_cell HOW2.out 1
      have o2_ := blk_cell HOW2.out 2
      have o3_ := blk_cell HOW2.out 3
      have o4_ := blk_cell HOW2.out 4
      have of0_ := blk_frozen HOW2.out 0
      have of1_ := blk_frozen HOW2.out 1
      have of2_ := blk_frozen HOW2.out 2
      have of3_ := blk_frozen HOW2.out 3
      have of4_ := blk_frozen HOW2.out 4
      have a0_ := blk_cell HA.out 0
      have a1_ := blk_cell HA.out 1
      have a2_ := blk_cell HA.out 2
      have a3_ := blk_cell HA.out 3
      have a4_ := blk_cell HA.out 4
      simp only [List.getElem?_toArray, List.getElem?_cons_zero, List.getElem?_cons_succ] at o0_ o1_ o2_ o3_ o4_ a0_ a1_ a2_ a3_ a4_
      go_wp2_with fail
      have hp := put5_block HOW2.out (.int .i64 0) (.int .i64 0) (.int .i64 st) (.slice Ar 32 cr) (.slice At T ct)
      have hq1 := Kd.R_lower (R_put5 HR.out HOW2.out (by decide) (.int .i64 0) (.int .i64 0) (.int .i64 st) (.slice Ar 32 cr) (.slice At T ct)) HB.out.size
      have hq3 := put5_below (.int .i64 0) (.int .i64 0) (.int .i64 st) (.slice Ar 32 cr) (.slice At T ct) (below_step HB.out HBW.out) (Nat.le_refl w.heap.size)
      unfold put5 at hp hq1 hq3
      refine bodyPost_ret (results_c (fn := Tryz.f22) (p := 2) (ty := 31) rfl _ _ w.heap.size 31 #[(.int .i64 0), (.int .i64 0), .int .i64 st, .slice Ar 32 cr, .slice At T ct] (0, 0) _ rfl hp Tryz.underlying31 rfl (by kernel_rfl)) rfl ?_
      exact ⟨_, rfl, hq1, hq3⟩
 · have q1 : (er != 0) = true := bne_iff_ne.2 he
   have q2 : (er == 0) = false := beq_eq_false_iff_ne.2 he
   have HE := (HAT.out.2 he).symm
   clear HAT he
   subst HE
   go_wp2_with fail
   refine (HPL.out _ HLW.out).mono ?_
   rintro e w13 ⟨rfl, hw13⟩
   subst hw13
   have HA2 := Aside0.mk (blk_put (cs' := #[.int .i64 er, .int .i64 pl, .int .i64 st, (.slice none 0 0), (.slice At T ct)]) HA.out 1 (.int .i64 pl) rfl)
   have HLW2 := Aside0.mk (HLW.out.setCell (p := ⟨W0.heap.size, 1, none⟩) (Nat.le_refl _) (.int .i64 pl))
   have a1_ := blk_cell HA.out 1
   have af1_ := blk_frozen HA.out 1
   simp only [List.getElem?_toArray, List.getElem?_cons_zero, List.getElem?_cons_succ] at a1_
   clear HA HLW HPL
   have HA := Aside0.mk HA2.out
   have HLW := Aside0.mk HLW2.out
   clear HA2 HLW2
   go_wp2_with fail
   clear y39
   go_loopw [4] (fun v4 W => ∃ (i : Nat) (Ar : Option Addr) (cr : Nat), v4 = .int .i64 (i : Int) ∧ i ≤ 32 ∧ Aside0 (W.heap[W0.heap.size]? = some (.cells #[(.int .i64 er), (.int .i64 pl), .int .i64 st, .slice Ar i cr, .slice At T ct] 31 (0, 0))) ∧ Aside0 (Kd.R (Kd.int .u64) 52 W W0.heap.size (fun _ => True) (.slice Ar i cr) (rows X i)) ∧ Aside0 (Below W0.heap.size W0 W)) (fun v4 _ => 32 - (intOf v4).toNat)
   case atStart => exact ⟨0, none, 0, rfl, by omega, HA, ⟨Kd.R_nil _ _ _ _ _⟩, HLW⟩
   case round =>
    clear HA HLW
    obtain ⟨i, Ar, cr, rfl, hi, HA, HR, HBW⟩ := hrel
    by_cases hlt : i < 32
    · have t1 : decide ((i : Int) < 32) = true := decide_eq_true (by omega)
      have u1 : ((i : Int) < 32) = True := eq_true (by omega)
      have x3 := blk_cell HA.out 3
      simp only [List.getElem?_toArray, List.getElem?_cons_zero, List.getElem?_cons_succ] at x3
      have xg := HMXW.out i hlt wr HBW.out
      have HMX := Aside0.mk (HMXW.out i hlt)
      have HI := Aside0.mk hlt
      have HSI := Aside0.mk (show W0.heap.size ≤ wr.drew.heap.size from HBW.out.size)
      have HLN := Aside0.mk (show ((rows X i).length + 1) * 8 ≤ 140737488355328 from by rw [rows_len]; omega)
      have HPB2 := Aside0.mk (show ∀ w39, wr.drew.grownBy w39 (Value.slice Ar i cr).ownBlock → w39.cell? ⟨W0.heap.size, 3, none⟩ = some (.slice Ar i cr) ∧ w39.frozen? ⟨W0.heap.size, 3, none⟩ = false ∧ w39.heap[W0.heap.size]? = some (.cells #[(.int .i64 er), (.int .i64 pl), .int .i64 st, .slice Ar i cr, .slice At T ct] 31 (0, 0)) from fun w39 hg => by
       have hne : some W0.heap.size ≠ (Value.slice Ar i cr).ownBlock := fun e => by
        obtain ⟨cs, hcs⟩ := Kd.R_typed HR.out _ e.symm
        rw [HA.out] at hcs
        injection hcs with hcs
        injection hcs with _ h2
        exact absurd h2 (by decide)
       have hx := blk_grown (w := wr.drew) HA.out hg hne
       exact ⟨(blk_cell hx 3).trans (by simp), blk_frozen hx 3, hx⟩)
      clear hlt
      go_wp2_with fail
      refine start_ (n := 12) (S := fun w' => w'.cell? ⟨W0.heap.size, 3, none⟩ = some (.slice Ar i cr) ∧ w'.cell? ⟨g, 3 + i, none⟩ = some (.int .u64 (X i))) (ds := [11]) #[vF,vF,vF,vF,vF,vF,vF,vF,vF,vF,vF,vF] (by kernel_rfl) rfl rfl ⟨x3, xg⟩ (fun hHeld => ?_)
      refine pure_ (i := 0) (N := some 30) (v := ?_) (a' := ?_) #[vT,vF,vF,vF,vF,vF,vF,vF,vF,vF,vF,vF] rfl rfl (by kernel_rfl) (fun _ _ _ h => h) (Or.inl ⟨by rfl, ?_⟩) ?_ ?_
      rotate_left
      · intro w'; go_simp; with_reducible rfl
      rotate_left
      · simp only [Act.put, List.setIfInBounds_toArray, List.set, i64_w, i32_w]
        rfl
      refine pure_ (i := 2) (N := some 32) (v := ?_) (a' := ?_) #[vT,vF,vT,vF,vF,vF,vF,vF,vF,vF,vF,vF] rfl rfl (by kernel_rfl) (fun _ _ _ h => h) (Or.inl ⟨by rfl, ?_⟩) ?_ ?_
      rotate_left
      · intro w'; go_simp; with_reducible rfl
      rotate_left
      · simp only [Act.put, List.setIfInBounds_toArray, List.set, i64_w, i32_w]
        rfl
      refine pure_ (i := 3) (N := some 33) (v := ?_) (a' := ?_) #[vT,vF,vT,vT,vF,vF,vF,vF,vF,vF,vF,vF] rfl rfl (by kernel_rfl) (fun _ _ _ h => h) (Or.inl ⟨by rfl, ?_⟩) ?_ ?_
      rotate_left
      · intro w'; go_simp; with_reducible rfl
      rotate_left
      · simp only [Act.put, List.setIfInBounds_toArray, List.set, i64_w, i32_w]
        rfl
      refine pure_ (i := 4) (N := some 34) (v := ?_) (a' := ?_) #[vT,vF,vT,vT,vT,vF,vF,vF,vF,vF,vF,vF] rfl rfl (by kernel_rfl) (fun _ _ _ h => h) (Or.inl ⟨by rfl, ?_⟩) ?_ ?_
      rotate_left
      · intro w'; go_simp; with_reducible rfl
      rotate_left
      · simp only [Act.put, List.setIfInBounds_toArray, List.set, i64_w, i32_w]
        rfl
      refine pure_ (i := 5) (N := some 35) (v := ?_) (a' := ?_) #[vT,vF,vT,vT,vT,vT,vF,vF,vF,vF,vF,vF] rfl rfl (by kernel_rfl) (fun _ _ _ h => h) (Or.inl ⟨by rfl, ?_⟩) ?_ ?_
      rotate_left
      · intro w'; go_simp; with_reducible rfl
      rotate_left
      · simp only [Act.put, List.setIfInBounds_toArray, List.set, i64_w, i32_w]
        rfl
      refine pure_ (i := 6) (N := some 36) (v := ?_) (a' := ?_) #[vT,vF,vT,vT,vT,vT,vT,vF,vF,vF,vF,vF] rfl rfl (by kernel_rfl) (fun _ _ _ h => h) (Or.inl ⟨by rfl, ?_⟩) ?_ ?_
      rotate_left
      · intro w'; go_simp; with_reducible rfl
      rotate_left
      · simp only [Act.put, List.setIfInBounds_toArray, List.set, i64_w, i32_w]
        rfl
      refine take_ (i := 1) (N := some 31) (v := ?_) (a' := ?_) #[vT,vT,vT,vT,vT,vT,vT,vF,vF,vF,vF,vF] rfl rfl (by kernel_rfl) (fun _ _ _ h => h) (Or.inl ⟨by rfl, ?_⟩) hHeld ?_ ?_
      rotate_left
      · rintro w' ⟨s0, s1⟩; go_simp; with_reducible rfl
      rotate_left
      · simp only [Act.put, List.setIfInBounds_toArray, List.set, i64_w, i32_w]
        rfl
      refine take_ (i := 7) (N := some 37) (v := ?_) (a' := ?_) #[vT,vT,vT,vT,vT,vT,vT,vT,vF,vF,vF,vF] rfl rfl (by kernel_rfl) (fun _ _ _ h => h) (Or.inl ⟨by rfl, ?_⟩) hHeld ?_ ?_
      rotate_left
      · rintro w' ⟨s0, s1⟩; go_simp; with_reducible rfl
      rotate_left
      · simp only [Act.put, List.setIfInBounds_toArray, List.set, i64_w, i32_w]
        rfl
      refine one_ (i := 8) (N := some 38) #[vT,vT,vT,vT,vT,vT,vT,vT,vT,vF,vF,vF] rfl rfl (by kernel_rfl) (by decide) (fun K hK => ?_)
      refine value_ (w1 := ?_) (v := ?_) (by rfl) rfl ?_ ?_
      rotate_left 2
      · go_simp
        constructor
        · rfl
        · rfl
      have L8 := below_alloc (Below.refl wr.drew.heap.size wr.drew) (.cells #[.int .u64 (X i)] 52)
      refine hK.out _ _ ⟨kB L8 hHeld.1, kB L8 hHeld.2⟩ (fun hHeld => ?_)
      clear hK K
      refine norm_ (a' := ?_) ?_ ?_
      rotate_left
      · show Act.put _ (some 38) _ = _; simp only [Act.put, List.setIfInBounds_toArray, List.set, i64_w, i32_w]; rfl
      refine one_ (i := 9) (N := some 39) #[vT,vT,vT,vT,vT,vT,vT,vT,vT,vT,vF,vF] rfl rfl (by kernel_rfl) (by decide) (fun K hK => ?_)
      refine Kd.R_append_step (Kd.int .u64) (w0 := W0) W0.heap.size (by rfl) (.tmp 31) (.tmp 38) 23 52 (.int .u64 0) 8 rfl Tryz.underlying23 Clone.inf52 rfl (by decide) (by omega) (.slice Ar i cr) (rows X i) (X i) [.int .u64 (X i)] (fun _ => True) (fun _ => False) rfl rfl rfl (fun _ h => h.elim) (fun _ _ => trivial) (Kd.R_drew HR.out) (below_drew1 HBW.out) HSI.out HLN.out ?_
      intro v39 w39 ho39 hb39 hg39 hat39
      rw [← rows_succ] at ho39
      obtain ⟨A39, c39, e39⟩ := Kd.R_slice ho39
      rw [rows_len] at e39
      subst e39
      have HO39 := Aside0.mk ho39
      have HB39 := Aside0.mk hb39
      have HG39 := Aside0.mk hg39
      clear ho39 hb39 hg39 hat39
      have hpb := HPB2.out w39 HG39.out
      refine hK.out _ _ ⟨hpb.1, HMX.out w39 HB39.out⟩ (fun hHeld => ?_)
      clear hK K
      refine norm_ (a' := ?_) ?_ ?_
      rotate_left
      · show Act.put _ (some 39) _ = _; simp only [Act.put, List.setIfInBounds_toArray, List.set, i64_w, i32_w]; rfl
      refine pure_ (i := 10) (N := some 40) (v := ?_) (a' := ?_) #[vT,vT,vT,vT,vT,vT,vT,vT,vT,vT,vT,vF] rfl rfl (by kernel_rfl) (fun _ _ _ h => h) (Or.inl ⟨by rfl, ?_⟩) ?_ ?_
      rotate_left
      · intro w'; go_simp; with_reducible rfl
      rotate_left
      · simp only [Act.put, List.setIfInBounds_toArray, List.set, i64_w, i32_w]
        rfl
      refine last_ (i := 11) (N := none) #[vT,vT,vT,vT,vT,vT,vT,vT,vT,vT,vT,vT] rfl rfl (by kernel_rfl) (by decide) (fun K hK => ?_)
      have z3 := hpb.1
      have f3 := hpb.2.1
      refine skip_ (w1 := ?_) (by rfl) rfl ?_ ?_
      rotate_left
      · go_simp
        rfl
      refine hK.out _ _ ?_
      clear hK K
      refine done_ (by kernel_rfl) ?_
      have HA2 := Aside0.mk (blk_put (cs' := #[(.int .i64 er), (.int .i64 pl), .int .i64 st, .slice A39 (i + 1) c39, .slice At T ct]) hpb.2.2 3 (.slice A39 (i + 1) c39) rfl)
      have HR2 := Aside0.mk (Kd.R_set HO39.out hpb.2.2 (by decide) 3 (.slice A39 (i + 1) c39))
      have HBW2 := Aside0.mk (HB39.out.setCell (p := ⟨W0.heap.size, 3, none⟩) (Nat.le_refl _) (.slice A39 (i + 1) c39))
      have hi3 := HI.out
      clear hpb z3 f3 x3 xg HA HR HBW HO39 HB39 HG39 HPB2 HMX t1 u1 L8
      go_wp2
      exact ⟨⟨i + 1, A39, c39, by go_num, by omega, HA2, HR2, HBW2⟩, by simp [intOf]; omega⟩
    · obtain rfl : i = 32 := by omega
      have HOW2 := Aside0.mk (blk_below HOW.out HBW.out)
      have o0_ := blk_cell HOW2.out 0
      have o1_ := blk_cell HOW2.out 1
      have o2_ := blk_cell HOW2.out 2
      have o3_ := blk_cell HOW2.out 3
      have o4_ := blk_cell HOW2.out 4
      have of0_ := blk_frozen HOW2.out 0
      have of1_ := blk_frozen HOW2.out 1
      have of2_ := blk_frozen HOW2.out 2
      have of3_ := blk_frozen HOW2.out 3
      have of4_ := blk_frozen HOW2.out 4
      have a0_ := blk_cell HA.out 0
      have a1_ := blk_cell HA.out 1
      have a2_ := blk_cell HA.out 2
      have a3_ := blk_cell HA.out 3
      have a4_ := blk_cell HA.out 4
      simp only [List.getElem?_toArray, List.getElem?_cons_zero, List.getElem?_cons_succ] at o0_ o1_ o2_ o3_ o4_ a0_ a1_ a2_ a3_ a4_
      go_wp2_with fail
      have hp := put5_block HOW2.out (.int .i64 er) (.int .i64 pl) (.int .i64 st) (.slice Ar 32 cr) (.slice At T ct)
      have hq1 := Kd.R_lower (R_put5 HR.out HOW2.out (by decide) (.int .i64 er) (.int .i64 pl) (.int .i64 st) (.slice Ar 32 cr) (.slice At T ct)) HB.out.size
      have hq3 := put5_below (.int .i64 er) (.int .i64 pl) (.int .i64 st) (.slice Ar 32 cr) (.slice At T ct) (below_step HB.out HBW.out) (Nat.le_refl w.heap.size)
      unfold put5 at hp hq1 hq3
      refine bodyPost_ret (results_c (fn := Tryz.f22) (p := 2) (ty := 31) rfl _ _ w.heap.size 31 #[(.int .i64 er), (.int .i64 pl), .int .i64 st, .slice Ar 32 cr, .slice At T ct] (0, 0) _ rfl hp Tryz.underlying31 rfl (by kernel_rfl)) rfl ?_
      exact ⟨_, rfl, hq1, hq3⟩
end Go.Proofs.YtcgkgaibomcheaaGreat.ROut
end
section
namespace Go.Proofs.YtcgkgaibomcheaaGreat.RunsL
open Go.RowKit Bits Mac Mb Rd RDec EM EOut NewM Go.Proofs.YtcgkgaibomcheaaGreat.Pure Goes Fit EndsL SameH PRvemuRuns YtcgkgaibomcheaaGreatW.PrintWords YtcgkgaibomcheaaGreatW.PrintLast YtcgkgaibomcheaaGreatW.PrintMore
theorem C_pre {α : Type} {d : Kd α} {e base c : Nat} {ok : Nat → Prop} {w : World} {A : Option Addr} {xs : List α} {p : α} (h : d.R e w base ok (.slice A (xs.length + 1) c) (xs ++ [p])) : d.C w A xs.length xs ∧ xs.length ≤ c := by
 obtain ⟨h1, h2, h3⟩ := Kd.R_reads' h
 refine ⟨⟨rfl, by have := h3.2.1; rw [List.length_append, List.length_singleton] at this; omega, fun hp => ?_⟩, by omega⟩
 obtain ⟨ad, ea, hc⟩ := h3.2.2 (by rw [List.length_append, List.length_singleton]; omega)
 refine ⟨ad, ea, fun j q hj => hc j q ?_⟩
 rw [List.getElem?_append_left (List.getElem?_eq_some_iff.1 hj).1]
 exact hj
end Go.Proofs.YtcgkgaibomcheaaGreat.RunsL
end
section
namespace Go.Proofs.YtcgkgaibomcheaaGreat.StepsP
open Go.RowKit Bits Mac Mb Rd EM EDo RM NewM NewE NewR Go.Proofs.YtcgkgaibomcheaaGreat.Pure Goes SameH PRvemuRuns YtcgkgaibomcheaaGreatW.PrintWords YtcgkgaibomcheaaGreatW.PrintLast
def NumB (k : IntKind) (t n g : Nat) (W : World) : Prop := ∃ cs : Array Value, W.heap[g]? = some (.cells cs t (0, 0)) ∧ ∀ j, j < n → ∃ v, cs[j]? = some (.int k v)
def CellB (t n g : Nat) (W : World) : Prop := ∃ cs : Array Value, W.heap[g]? = some (.cells cs t (0, 0)) ∧ n ≤ cs.size
section
variable {k : IntKind} {t n g : Nat} {W W' : World}
theorem NumB.cell (h : NumB k t n g W) {j : Nat} (hj : j < n) : ∃ v, W.cell? ⟨g, j, none⟩ = some (.int k v) := by
 obtain ⟨cs, h1, h2⟩ := h
 obtain ⟨v, hv⟩ := h2 j hj
 exact ⟨v, (blk_cell h1 j).trans hv⟩
theorem NumB.frozen (h : NumB k t n g W) (j : Nat) : W.frozen? ⟨g, j, none⟩ = false := by
 obtain ⟨cs, h1, _⟩ := h
 exact blk_frozen h1 j
theorem NumB.put (h : NumB k t n g W) (g' j : Nat) (v : Int) : NumB k t n g (W.setCell ⟨g', j, none⟩ (.int k v)) := by
 obtain ⟨cs, h1, h2⟩ := h
 by_cases e : g = g'
 · subst e
   refine ⟨_, blk_set h1 j (.int k v), fun i hi => ?_⟩
   obtain ⟨u, hu⟩ := h2 i hi
   by_cases e2 : j = i
   · subst e2
     have hl := (Array.getElem?_eq_some_iff.1 hu).1
     exact ⟨v, by rw [Array.getElem?_setIfInBounds, if_pos rfl, if_pos hl]⟩
   · exact ⟨u, by rw [Array.getElem?_setIfInBounds, if_neg e2]; exact hu⟩
 · exact ⟨cs, blk_far h1 (p := ⟨g', j, none⟩) e _, h2⟩
theorem NumB.below (h : NumB k t n g W) (hb : Below W.heap.size W W') : NumB k t n g W' := by
 obtain ⟨cs, h1, h2⟩ := h
 exact ⟨cs, blk_below h1 hb, h2⟩
theorem CellB.cell (h : CellB t n g W) {j : Nat} (hj : j < n) : ∃ v, W.cell? ⟨g, j, none⟩ = some v := by
 obtain ⟨cs, h1, h2⟩ := h
 exact ⟨_, (blk_cell h1 j).trans (Array.getElem?_eq_getElem (by omega))⟩
theorem CellB.frozen (h : CellB t n g W) (j : Nat) : W.frozen? ⟨g, j, none⟩ = false := by
 obtain ⟨cs, h1, _⟩ := h
 exact blk_frozen h1 j
theorem CellB.put (h : CellB t n g W) (g' j : Nat) (v : Value) : CellB t n g (W.setCell ⟨g', j, none⟩ v) := by
 obtain ⟨cs, h1, h2⟩ := h
 by_cases e : g = g'
 · subst e
   exact ⟨_, blk_set h1 j v, by rw [Array.size_setIfInBounds]; exact h2⟩
 · exact ⟨cs, blk_far h1 (p := ⟨g', j, none⟩) e _, h2⟩
theorem CellB.below (h : CellB t n g W) (hb : Below W.heap.size W W') : CellB t n g W' := by
 obtain ⟨cs, h1, h2⟩ := h
 exact ⟨cs, blk_below h1 hb, h2⟩
end
theorem add0 (g m : Nat) : (⟨g, 0, none⟩ : Addr).add m = ⟨g, m, none⟩ := by
 by_cases h : m = 0
 · subst h; rfl
 · simp [Addr.add, h]
theorem num_of {k : IntKind} {e base n c : Nat} {ok : Nat → Prop} {W : World} {A : Option Addr} {xs : List Int} (h : Kd.R (Kd.int k) e W base ok (.slice A n c) xs) (hn : 0 < n) : ∃ g, A = some ⟨g, 0, none⟩ ∧ base ≤ g ∧ g < W.heap.size ∧ NumB k e n g W := by
 obtain ⟨e1, e2, hC⟩ := Kd.R_reads' h
 obtain ⟨g, cap, ev, hb, hl, cells, hcs⟩ := Kd.R_form h (by omega)
 injection ev with a1 a2 a3
 subst a1
 refine ⟨g, rfl, hb, hl, cells, hcs, fun j hj => ?_⟩
 obtain ⟨ad, ea, hc⟩ := at_num hC j (by omega)
 injection ea with ea
 subst ea
 rw [add0, blk_cell hcs j] at hc
 exact ⟨_, hc⟩
theorem ev_of {e base n c : Nat} {ok : Nat → Prop} {W : World} {A : Option Addr} {xs : List S54} (h : Kd.R k54 e W base ok (.slice A n c) xs) (hn : 0 < n) : ∃ g, A = some ⟨g, 0, none⟩ ∧ base ≤ g ∧ g < W.heap.size ∧ CellB e (n * 3) g W := by
 obtain ⟨e1, e2, hC⟩ := Kd.R_reads' h
 obtain ⟨g, cap, ev, hb, hl, cells, hcs⟩ := Kd.R_form h (by omega)
 injection ev with a1 a2 a3
 subst a1
 refine ⟨g, rfl, hb, hl, cells, hcs, ?_⟩
 obtain ⟨ad, ea, _, _, hc⟩ := at_T54 hC ((n - 1 : Nat) : Int) (by omega) (by omega)
 injection ea with ea
 subst ea
 rw [Int.toNat_natCast, add0] at hc
 have hc2 := (blk_cell hcs ((n - 1) * 3 + 2)).symm.trans hc
 have := (Array.getElem?_eq_some_iff.1 hc2).1
 omega
structure St (Wp : World) (B B1 g gm : Nat) (c d f t : Value) (g2 : Nat) (c2 d2 f2 t2 : Value) (W : World) (m : Mac) : Prop where
 e : GoE B B1 g gm c d f t W m
 r : GoR B1 g2 c2 d2 f2 t2 W m
 dj : ∀ k, some k = t.ownBlock → ¬ (k = g2 ∨ some k = d2.ownBlock ∨ some k = f2.ownBlock ∨ some k = t2.ownBlock)
 bl : Below Wp.heap.size Wp W
 pB : Wp.heap.size ≤ B
section
variable {Wp : World} {B B1 g gm : Nat} {c d f t : Value} {g2 : Nat} {c2 d2 f2 t2 : Value} {W W' : World} {m : Mac}
theorem GoR.high (h : GoR B1 g2 c2 d2 f2 t2 W m) (k : Nat) (hk : k = g2 ∨ some k = d2.ownBlock ∨ some k = f2.ownBlock ∨ some k = t2.ownBlock) : k < W.heap.size := by
 rcases hk with e | e | e | e
 · rw [e]; exact h.mr.mb.lt
 · obtain ⟨gd, cd, q1, q2, q3⟩ := h.mr.data
   rw [q1] at e
   have : k = gd := by simpa [Value.ownBlock] using e
   rw [this]; exact q3.lt
 · obtain ⟨cs, q⟩ := h.mr.fty k e
   exact blk_lt q
 · exact h.mr.tr.lt k e
theorem St.below (h : St Wp B B1 g gm c d f t g2 c2 d2 f2 t2 W m) (hb : Below W.heap.size W W') : St Wp B B1 g gm c d f t g2 c2 d2 f2 t2 W' m := by
 have hk := Kept.of_below hb (fun _ => False)
 exact ⟨h.e.kept hk (fun _ _ e => e.elim), h.r.kept hk (fun _ _ e => e.elim) (h.r.code.kept hk (fun _ _ e => e.elim)), h.dj, below_step h.bl hb, h.pB⟩
theorem St.store (h : St Wp B B1 g gm c d f t g2 c2 d2 f2 t2 W m) (hC : ∀ W', Below Wp.heap.size Wp W' → CodeAt W' (fun k => Wp.heap.size ≤ k) c2 m.code) {k : Nat} (h0 : Wp.heap.size ≤ k) (h1 : k < B) (j : Nat) (u : Value) : St Wp B B1 g gm c d f t g2 c2 d2 f2 t2 (W.setCell ⟨k, j, none⟩ u) m := by
 have hk : Kept W (W.setCell ⟨k, j, none⟩ u) (fun i => i = k) := (Kept.refl W (fun i => i = k)).setCell (p := ⟨k, j, none⟩) (.inl rfl) u
 have hbl := h.bl.setCell (p := ⟨k, j, none⟩) h0 u
 refine ⟨h.e.kept hk (fun i _ e => .inl (by rw [e]; exact h1)), h.r.kept hk (fun i _ e q => ?_) ((hC _ hbl).imp (fun i _ hi => ?_)), h.dj, hbl, h.pB⟩
 · have := h.r.low i q
   have := h.e.hB
   omega
 · have := h.e.hB
   have := h.pB
   omega
theorem St.stepE (h : St Wp B B1 g gm c d f t g2 c2 d2 f2 t2 W m) (hC : ∀ W', Below Wp.heap.size Wp W' → CodeAt W' (fun k => Wp.heap.size ≤ k) c2 m.code) (hl : Lft W g gm (stepM m) c d f t W') : ∃ t', GoE B B1 g gm c d f t' W' (stepM m) ∧ GoR B1 g2 c2 d2 f2 t2 W' m ∧ (∀ k, some k = t'.ownBlock → ¬ (k = g2 ∨ some k = d2.ownBlock ∨ some k = f2.ownBlock ∨ some k = t2.ownBlock)) ∧ Below Wp.heap.size Wp W' := by
 obtain ⟨t1, a1, a2, a3⟩ := hl
 have hdis : ∀ k, EM.own g f t k → ¬ (k = g2 ∨ some k = d2.ownBlock ∨ some k = f2.ownBlock ∨ some k = t2.ownBlock) := by
  intro k hk q
  have hq := h.r.low k q
  rcases hk with e | e | e
  · have := h.e.high k (.inl e); omega
  · have := h.e.high k (.inr (.inr (.inr e))); omega
  · exact h.dj k e q
 have hbl : Below Wp.heap.size Wp W' := below_wr h.bl h.bl.size a2 (fun k _ hk => Nat.le_trans h.pB (h.e.owned k hk).2)
 have hc : CodeAt W' (fun k => B1 ≤ k) c2 m.code := (hC _ hbl).imp (fun i _ hi => by
  have := h.e.hB
  have := h.pB
  omega)
 refine ⟨t1, ⟨a1, ?_, fun k hk => ?_, h.e.low, h.e.high, Nat.le_trans h.e.size a2.1.1, h.e.hB⟩, h.r.kept a2.1 (fun k _ hk => hdis k hk) hc, fun k hk q => ?_, ?_⟩
 · rw [code_step]
   exact h.e.code.kept a2.1 (fun k _ hk => (h.e.owned k hk).1)
 · rcases a3 k hk with e | e
   · exact h.e.own k e
   · exact Nat.le_trans h.e.size e
 · rcases a3 k hk with e | e
   · exact h.dj k e q
   · have := GoR.high h.r k q; omega
 · exact hbl
theorem St.stepR (hpB : Wp.heap.size ≤ B) (he : GoE B B1 g gm c d f t W (stepM m)) (hr : GoR B1 g2 c2 d2 f2 t2 W m) (hd : ∀ k, some k = t.ownBlock → ¬ (k = g2 ∨ some k = d2.ownBlock ∨ some k = f2.ownBlock ∨ some k = t2.ownBlock)) (hb : Below Wp.heap.size Wp W) (hl : LftR W g2 (stepM m) c2 d2 f2 t2 W') : ∃ f' t', St Wp B B1 g gm c d f t g2 c2 d2 f' t' W' (stepM m) := by
 obtain ⟨f1, t1, a1, a2, a3, a4⟩ := hl
 obtain ⟨_, _, _⟩ := hr.step ⟨f1, t1, a1, a2, a3, a4⟩
 have hg : GoR B1 g2 c2 d2 f1 t1 W' (stepM m) := by
  refine ⟨a1, ?_, fun k hk => ?_, Nat.le_trans hr.size a2.1.1⟩
  · rw [code_step]
    exact hr.code.kept a2.1 (fun k _ hk => hr.owned k hk)
  · have hs := hr.size
    rcases hk with e | e | e | e
    · exact hr.low k (.inl e)
    · exact hr.low k (.inr (.inl e))
    · rcases a4 k e with e | e
      · exact hr.low k (.inr (.inr (.inl e)))
      · omega
    · rcases a3 k e with e | e
      · exact hr.low k (.inr (.inr (.inr e)))
      · omega
 have hB := he.hB
 refine ⟨f1, t1, he.kept a2.1 (fun k _ hk => .inr ⟨hr.owned k hk, fun e => ?_⟩), hg, fun k hk q => ?_, below_wr hb hb.size a2 (fun k _ hk => ?_), hpB⟩
 · rcases hk with q | q
   · exact hd k e (.inl q)
   · exact hd k e (.inr (.inr (.inr q)))
 · have hlt := he.me.tr.lt k hk
   rcases q with q | q | q | q
   · exact hd k hk (.inl q)
   · exact hd k hk (.inr (.inl q))
   · rcases a4 k q with q | q
     · exact hd k hk (.inr (.inr (.inl q)))
     · omega
   · rcases a3 k q with q | q
     · exact hd k hk (.inr (.inr (.inr q)))
     · omega
 · have := hr.owned k hk
   omega
end
end Go.Proofs.YtcgkgaibomcheaaGreat.StepsP
end
