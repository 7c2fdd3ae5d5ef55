/- Joined texts: ENew, EOut, ERun, Head. Conditions: those of each theorem. -/
import Derived.Test.YtcgkgaibomcheaaGreatZC01
import Derived.Test.YtcgkgaibomcheaaGreatZT18
import Derived.Test.YtcgkgaibomcheaaGreatZC13
import Derived.Test.YtcgkgaibomcheaaGreatZC10
import Derived.Test.YtcgkgaibomcheaaGreatZC08
set_option linter.unusedVariables false
set_option linter.unusedSimpArgs false
section
namespace Go.Proofs.YtcgkgaibomcheaaGreat.ENew
open Go.RowKit Bits Mac Mb Rd RDec EM Fill NewM NewE PRvemuRuns YtcgkgaibomcheaaGreatW.PrintWords YtcgkgaibomcheaaGreatW.PrintLast YtcgkgaibomcheaaGreatW.PrintMore
theorem filled_form {W w' : World} {v : Value} {l : List Int} {n : Nat} (h : Filled W v l n w') (hn : 0 < n) : ∃ gd cd, v = .slice (some ⟨gd, 0, none⟩) n cd ∧ n ≤ cd := by
 obtain ⟨A, c, e, hc, hr⟩ := h.1
 rw [pad_len] at e hc
 rcases hr with hr | ⟨b, hb, _⟩
 · have := pad_len l n
   rw [hr] at this
   simp at this
   omega
 · subst hb
   exact ⟨b, c, e, hc⟩
set_option maxRecDepth 20000 in
set_option maxHeartbeats 1000000 in
theorem news (cA dA rA sA : Option Addr) (cc dc rc sc : Nat) (lc ld ls lr : List Int) (fr fu : Int) (w : World)
 (hc : (Kd.int .u8).C w cA lc.length lc) (hlc : lc.length ≤ 140737488355328) (hd : (Kd.int .u8).C w dA ld.length ld) (hr : (Kd.int .u64).C w rA lr.length lr) (hs : (Kd.int .u8).C w sA ls.length ls) (hbd : isBytes ld) (hbs : isBytes ls) (hwr : isWords lr) :
 Calls Tryz.prog 19 #[.agg #[.slice cA lc.length cc, .slice dA ld.length dc, .slice rA lr.length rc, .slice sA ls.length sc, .int .i64 fr, .int .i64 fu]] w fun e w' => ∃ g gm c d f, e = .returned (.pointer (some ⟨g, 0, none⟩)) ∧ Out w.heap.size w' g gm c d f (newM lc ld lr ls fr fu) ∧ Below w.heap.size w w' := by
 have hbz := below_alloc (Below.refl w.heap.size w) (.cells #[.slice cA lc.length cc, .slice dA ld.length dc, .slice rA lr.length rc, .slice sA ls.length sc, .int .i64 fr, .int .i64 fu] 25)
 have HC33 := Aside0.mk (show ∀ W1, Below w.heap.size w W1 → Calls Tryz.prog 33 #[.slice cA lc.length cc] W1 fun e w' => ∃ A1 c1, e = .returned (.slice A1 lc.length c1) ∧ Kd.R (Kd.int .u8) 5 w' W1.heap.size (fun _ => True) (.slice A1 lc.length c1) lc ∧ Below W1.heap.size W1 w' from fun W1 hb => by
  refine (Clone.clone33 cA cc lc W1 (Kd.C_below hc hb) (by omega)).mono fun e w' hh => ?_
  obtain ⟨v, he, hr, hb⟩ := hh
  obtain ⟨A1, c1, hv⟩ := Kd.R_slice hr
  subst hv
  exact ⟨A1, c1, he, hr, hb⟩)
 have HC34 := Aside0.mk (show ∀ W1, Below w.heap.size w W1 → Calls Tryz.prog 34 #[.slice dA ld.length dc, .int .i64 64] W1 fun e w' => ∃ gd cd, e = .returned (.slice (some ⟨gd, 0, none⟩) 64 cd) ∧ 64 ≤ cd ∧ Filled W1 (.slice (some ⟨gd, 0, none⟩) 64 cd) ld 64 w' ∧ Below W1.heap.size W1 w' from fun W1 hb => by
  refine (filled34 dA dc ld 64 W1 (Kd.C_below hd hb) (by omega)).mono fun e w' hh => ?_
  obtain ⟨v, he, hr⟩ := hh
  obtain ⟨gd, cd, ev, h64⟩ := filled_form hr (by omega)
  subst ev
  exact ⟨gd, cd, he, h64, hr, hr.2.2⟩)
 have hB := blk_new w (.cells #[.slice cA lc.length cc, .slice dA ld.length dc, .slice rA lr.length rc, .slice sA ls.length sc, .int .i64 fr, .int .i64 fu] 25)
 have HRC := Aside0.mk hr
 have HBD := Aside0.mk hbd
 have HBS := Aside0.mk hbs
 have HWR := Aside0.mk hwr
 have HS34 := Aside0.mk (show ∀ W1, Below w.heap.size w W1 → 0 ≤ fr → fr ≤ 1048576 → Calls Tryz.prog 34 #[.slice sA ls.length sc, .int .i64 fr] W1 fun e w' => ∃ f, e = .returned f ∧ Filled W1 f ls fr.toNat w' from fun W1 hb h0 h1 => by
  have hx := filled34 sA sc ls fr.toNat W1 (Kd.C_below hs hb) (by omega)
  rw [Int.toNat_of_nonneg h0] at hx
  exact hx)
 clear hc hd hr hs hbd hbs hwr
 obtain ⟨nC, hnC⟩ : ∃ nC, lc.length = nC := ⟨_, rfl⟩
 obtain ⟨nD, hnD⟩ : ∃ nD, ld.length = nD := ⟨_, rfl⟩
 obtain ⟨nR, hnR⟩ : ∃ nR, lr.length = nR := ⟨_, rfl⟩
 obtain ⟨nS, hnS⟩ : ∃ nS, ls.length = nS := ⟨_, rfl⟩
 have NC := Aside0.mk hnC
 have ND := Aside0.mk hnD
 have NR := Aside0.mk hnR
 have NS := Aside0.mk hnS
 rw [hnC] at HC33 hlc hB hbz
 rw [hnD] at HC34 hB hbz
 rw [hnR, hnS] at hB hbz
 rw [hnS] at HS34
 rw [hnC, hnD, hnR, hnS]
 clear hnC hnD hnR hnS
 go_enter Tryz.func19, Tryz.ntmps19
 go_wp2_with fail
 obtain ⟨W0, hW0⟩ : ∃ W0, w.alloc (.cells #[.slice cA nC cc, .slice dA nD dc, .slice rA nR rc, .slice sA nS sc, .int .i64 fr, .int .i64 fu] 25) = W0 := ⟨_, rfl⟩
 rw [hW0] at hB hbz ⊢
 have HB0 := Aside0.mk hB
 have HBZ := Aside0.mk hbz
 have HSZ := Aside0.mk (show W0.heap.size = w.heap.size + 1 from by rw [← hW0, World.size_alloc])
 have x0 := blk_cell HB0.out 0
 have x1 := blk_cell HB0.out 1
 have x5 := blk_cell HB0.out 5
 simp only [List.getElem?_toArray, List.getElem?_cons_zero, List.getElem?_cons_succ] at x0 x1 x5
 have HW0 := Aside0.mk hW0
 clear hW0 hB hbz
 have L := below_drew1 (Below.refl W0.heap.size W0)
 refine start_ (n := 12) (S := fun w' => w'.cell? ⟨w.heap.size, 0, none⟩ = some (.slice cA nC cc) ∧ w'.cell? ⟨w.heap.size, 1, none⟩ = some (.slice dA nD dc) ∧ w'.cell? ⟨w.heap.size, 5, none⟩ = some (.int .i64 fu)) (ds := []) #[vF,vF,vF,vF,vF,vF,vF,vF,vF,vF,vF,vF] (by kernel_rfl) rfl rfl ⟨kB L x0, kB L x1, kB L x5⟩ (fun hHeld => ?_)
 refine pure_ (i := 0) (N := some 4) (v := ?_) (a' := ?_) #[vT,vF,vF,vF,vF,vF,vF,vF,vF,vF,vF,vF] rfl rfl (by kernel_rfl) (fun _ _ _ h => h) (Or.inl ⟨by rfl, ?_⟩) ?_ ?_
 rotate_left
 · intro w'; go_simp; with_reducible rfl
 rotate_left
 · simp only [Act.put, List.setIfInBounds_toArray, List.set, i64_w, i32_w]
   rfl
 refine pure_ (i := 3) (N := some 7) (v := ?_) (a' := ?_) #[vT,vF,vF,vT,vF,vF,vF,vF,vF,vF,vF,vF] rfl rfl (by kernel_rfl) (fun _ _ _ h => h) (Or.inl ⟨by rfl, ?_⟩) ?_ ?_
 rotate_left
 · intro w'; go_simp; with_reducible rfl
 rotate_left
 · simp only [Act.put, List.setIfInBounds_toArray, List.set, i64_w, i32_w]
   rfl
 refine pure_ (i := 6) (N := some 10) (v := ?_) (a' := ?_) #[vT,vF,vF,vT,vF,vF,vT,vF,vF,vF,vF,vF] rfl rfl (by kernel_rfl) (fun _ _ _ h => h) (Or.inl ⟨by rfl, ?_⟩) ?_ ?_
 rotate_left
 · intro w'; go_simp; with_reducible rfl
 rotate_left
 · simp only [Act.put, List.setIfInBounds_toArray, List.set, i64_w, i32_w]
   rfl
 refine take_ (i := 1) (N := some 5) (v := ?_) (a' := ?_) #[vT,vT,vF,vT,vF,vF,vT,vF,vF,vF,vF,vF] rfl rfl (by kernel_rfl) (fun _ _ _ h => h) (Or.inl ⟨by rfl, ?_⟩) hHeld ?_ ?_
 rotate_left
 · rintro w' ⟨s0, s1, s2⟩; go_simp; with_reducible rfl
 rotate_left
 · simp only [Act.put, List.setIfInBounds_toArray, List.set, i64_w, i32_w]
   rfl
 refine take_ (i := 4) (N := some 8) (v := ?_) (a' := ?_) #[vT,vT,vF,vT,vT,vF,vT,vF,vF,vF,vF,vF] rfl rfl (by kernel_rfl) (fun _ _ _ h => h) (Or.inl ⟨by rfl, ?_⟩) hHeld ?_ ?_
 rotate_left
 · rintro w' ⟨s0, s1, s2⟩; go_simp; with_reducible rfl
 rotate_left
 · simp only [Act.put, List.setIfInBounds_toArray, List.set, i64_w, i32_w]
   rfl
 refine take_ (i := 7) (N := some 11) (v := ?_) (a' := ?_) #[vT,vT,vF,vT,vT,vF,vT,vT,vF,vF,vF,vF] rfl rfl (by kernel_rfl) (fun _ _ _ h => h) (Or.inl ⟨by rfl, ?_⟩) hHeld ?_ ?_
 rotate_left
 · rintro w' ⟨s0, s1, s2⟩; go_simp; with_reducible rfl
 rotate_left
 · simp only [Act.put, List.setIfInBounds_toArray, List.set, i64_w, i32_w]
   rfl
 refine one_ (i := 2) (N := some 6) #[vT,vT,vT,vT,vT,vF,vT,vT,vF,vF,vF,vF] rfl rfl (by kernel_rfl) (by decide) (fun K hK => ?_)
 refine goes_ Tryz.func33 (by kernel_rfl) rfl #[.slice cA nC cc] (by rfl) rfl rfl (by simp only [List.map_toArray, List.map_cons, List.map_nil]; rfl) ?_
 with_reducible refine (HC33.out _ (below_step HBZ.out L)).mono ?_
 rintro e w9 ⟨A1, c1, rfl, hcode, hb2⟩
 refine ⟨_, rfl, ?_⟩
 have hcode := Aside0.mk hcode
 have L := below_step L hb2
 have HB9 := Aside0.mk hb2
 refine hK.out _ _ ⟨kB L x0, kB L x1, kB L x5⟩ (fun hHeld => ?_)
 clear hK K
 refine norm_ (a' := ?_) ?_ ?_
 rotate_left
 · show Act.put _ (some 6) _ = _; simp only [Act.put, List.setIfInBounds_toArray, List.set, i64_w, i32_w]; rfl
 refine one_ (i := 5) (N := some 9) #[vT,vT,vT,vT,vT,vT,vT,vT,vF,vF,vF,vF] rfl rfl (by kernel_rfl) (by decide) (fun K hK => ?_)
 refine goes_ Tryz.func34 (by kernel_rfl) rfl #[.slice dA nD dc, .int .i64 64] (by rfl) rfl rfl (by simp only [List.map_toArray, List.map_cons, List.map_nil]; rfl) ?_
 with_reducible refine (HC34.out _ (below_step HBZ.out L)).mono ?_
 rintro e w10 ⟨gd, cd, rfl, hcd, hdata, hb5⟩
 refine ⟨_, rfl, ?_⟩
 have HCD := Aside0.mk hcd
 have hle9 := (below_step HBZ.out L).size
 clear hcd
 have hdata := Aside0.mk hdata
 have hcode := Aside0.mk (Kd.R_below hcode.out hb5)
 have L := below_step L hb5
 refine hK.out _ _ ⟨kB L x0, kB L x1, kB L x5⟩ (fun hHeld => ?_)
 clear hK K
 refine norm_ (a' := ?_) ?_ ?_
 rotate_left
 · show Act.put _ (some 9) _ = _; simp only [Act.put, List.setIfInBounds_toArray, List.set, i64_w, i32_w]; rfl
 refine one_ (i := 8) (N := some 12) #[vT,vT,vT,vT,vT,vT,vT,vT,vT,vF,vF,vF] rfl rfl (by kernel_rfl) (by decide) (fun K hK => ?_)
 refine goes_ Tryz.func35 (by kernel_rfl) rfl #[] (by rfl) rfl rfl (by first | rfl | (simp only [List.map_toArray, List.map_cons, List.map_nil]; done)) ?_
 with_reducible refine (Tab.calls _).mono ?_
 rintro e w11 ⟨rfl, hmap, hb8⟩
 refine ⟨_, rfl, ?_⟩
 have hmap := Aside0.mk hmap
 have HB8 := Aside0.mk hb8
 have L := below_step L hb8
 clear hb8
 refine hK.out _ _ ⟨kB L x0, kB L x1, kB L x5⟩ (fun hHeld => ?_)
 clear hK K
 refine norm_ (a' := ?_) ?_ ?_
 rotate_left
 · show Act.put _ (some 12) _ = _; simp only [Act.put, List.setIfInBounds_toArray, List.set, i64_w, i32_w]; rfl
 refine pure_ (i := 9) (N := some 13) (v := ?_) (a' := ?_) #[vT,vT,vT,vT,vT,vT,vT,vT,vT,vT,vF,vF] rfl rfl (by kernel_rfl) (fun _ _ _ h => h) (Or.inl ⟨by rfl, ?_⟩) ?_ ?_
 rotate_left
 · intro w'; go_simp; with_reducible rfl
 rotate_left
 · simp only [Act.put, List.setIfInBounds_toArray, List.set, i64_w, i32_w]
   rfl
 refine one_ (i := 10) (N := some 14) #[vT,vT,vT,vT,vT,vT,vT,vT,vT,vT,vT,vF] rfl rfl (by kernel_rfl) (by decide) (fun K hK => ?_)
 refine value_ (w1 := ?_) (v := ?_) (by rfl) rfl ?_ ?_
 rotate_left 2
 · go_simp
   constructor
   · rfl
   · rfl
 have L11 := L
 obtain ⟨W12, hW12⟩ : ∃ W12, w11.alloc (.cells (bareCells fu (.slice A1 nC c1) (.slice (some ⟨gd, 0, none⟩) 64 cd) (.map (some w10.heap.size))) 74) = W12 := ⟨_, rfl⟩
 have hblk := blk_new w11 (.cells (bareCells fu (.slice A1 nC c1) (.slice (some ⟨gd, 0, none⟩) 64 cd) (.map (some w10.heap.size))) 74)
 have L := below_alloc L (.cells (bareCells fu (.slice A1 nC c1) (.slice (some ⟨gd, 0, none⟩) 64 cd) (.map (some w10.heap.size))) 74)
 rw [hW12] at L hblk
 have HBLK := Aside0.mk hblk
 refine swapw (W := W12) hW12.symm ?_
 refine hK.out _ _ ⟨kB L x0, kB L x1, kB L x5⟩ (fun hHeld => ?_)
 clear hK K
 refine norm_ (a' := ?_) ?_ ?_
 rotate_left
 · show Act.put _ (some 14) _ = _; simp only [Act.put, List.setIfInBounds_toArray, List.set, i64_w, i32_w]; rfl
 refine pure_ (i := 11) (N := some 3) (v := ?_) (a' := ?_) #[vT,vT,vT,vT,vT,vT,vT,vT,vT,vT,vT,vT] rfl rfl (by kernel_rfl) (fun _ _ _ h => h) (Or.inl ⟨by rfl, ?_⟩) ?_ ?_
 rotate_left
 · intro w'; go_simp; with_reducible rfl
 rotate_left
 · simp only [Act.put, List.setIfInBounds_toArray, List.set, i64_w, i32_w]
   rfl
 refine done_ (by kernel_rfl) ?_
 have hp0 := pre_new (.cells (bareCells fu (.slice A1 nC c1) (.slice (some ⟨gd, 0, none⟩) 64 cd) (.map (some w10.heap.size))) 74) (show w.heap.size ≤ W0.drew.heap.size from HBZ.out.size) (by rw [NC.out]; exact hcode.out) hdata.out hle9 hmap.out HB8.out
 rw [hW12, NC.out] at hp0
 have HP := Aside0.mk hp0
 have HENV := Aside0.mk (blk_below HB0.out L)
 have HEG := Aside0.mk (show w.heap.size < w11.heap.size from by
  have h1 := HB8.out.size
  have h2 := hdata.out.2.2.size
  have h3 := HB9.out.size
  have h4 := HSZ.out
  have h5 : W0.drew.heap.size = W0.heap.size := rfl
  omega)
 have HL := Aside0.mk (below_step HBZ.out L)
 have HCELLS := Aside0.mk (cells_bare lc ld fu (.slice A1 nC c1) (.slice (some ⟨gd, 0, none⟩) 64 cd) (.map (some w10.heap.size)))
 have x2 := blk_cell HENV.out 2
 have y4 := blk_cell HENV.out 4
 have y3 := blk_cell HENV.out 3
 simp only [List.getElem?_toArray, List.getElem?_cons_zero, List.getElem?_cons_succ] at x2 y3 y4
 clear hcode hdata hmap hle9 HB8 HB9 hHeld x0 x1 x5 HC33 HC34 HSZ HW0 HBZ HB0 L L11 hp0 hW12 hblk
 generalize w11.heap.size = g at *
 generalize w10.heap.size = gm at *
 obtain ⟨cells, hcells⟩ : ∃ cells, bareCells fu (.slice A1 nC c1) (.slice (some ⟨gd, 0, none⟩) 64 cd) (.map (some gm)) = cells := ⟨_, rfl⟩
 rw [hcells] at HBLK HCELLS
 clear hcells
 have HSIZE := Aside0.mk (show 42 ≤ cells.size from by
  have := (Array.getElem?_eq_some_iff.1 (HCELLS.out 41 (by omega))).1
  omega)
 have HLEN := Aside0.mk (show ((lr.take 32).map (Value.int .u64)).length = Nat.min nR 32 from by rw [src_len, NR.out])
 have HFIT := Aside0.mk (show 3 + ((lr.take 32).map (Value.int .u64)).length ≤ cells.toList.length from by
  have h1 := src_len (k := .u64) lr 32
  have h2 : Nat.min lr.length 32 ≤ 32 := Nat.min_le_right _ _
  have h3 := HSIZE.out
  rw [h1, Array.length_toList (xs := cells)]
  omega)
 have HPOS := Aside0.mk (fun h_ => (src34 (X := True) (n := 32) trivial HRC.out (below_drew1 HL.out) h_).2)
 go_wp2_with fail
 refine start_ (n := 7) (S := fun w' => w'.cell? ⟨w.heap.size, 2, none⟩ = some (.slice rA nR rc)) (ds := []) #[vF,vF,vF,vF,vF,vF,vF] (by kernel_rfl) rfl rfl (x2) (fun hHeld => ?_)
 refine pure_ (i := 0) (N := some 15) (v := ?_) (a' := ?_) #[vT,vF,vF,vF,vF,vF,vF] rfl rfl (by kernel_rfl) (fun _ _ _ h => h) (Or.inl ⟨by rfl, ?_⟩) ?_ ?_
 rotate_left
 · intro w'; go_simp; with_reducible rfl
 rotate_left
 · simp only [Act.put, List.setIfInBounds_toArray, List.set, i64_w, i32_w]
   rfl
 refine pure_ (i := 1) (N := some 16) (v := ?_) (a' := ?_) #[vT,vT,vF,vF,vF,vF,vF] rfl rfl (by kernel_rfl) (fun _ _ _ h => h) (Or.inl ⟨by rfl, ?_⟩) ?_ ?_
 rotate_left
 · intro w'; go_simp; with_reducible rfl
 rotate_left
 · simp only [Act.put, List.setIfInBounds_toArray, List.set, i64_w, i32_w]
   rfl
 refine pure_ (i := 2) (N := some 17) (v := ?_) (a' := ?_) #[vT,vT,vT,vF,vF,vF,vF] rfl rfl (by kernel_rfl) (fun _ _ _ h => h) (Or.inl ⟨by rfl, ?_⟩) ?_ ?_
 rotate_left
 · intro w'; go_simp; with_reducible rfl
 rotate_left
 · simp only [Act.put, List.setIfInBounds_toArray, List.set, i64_w, i32_w]
   rfl
 refine pure_ (i := 3) (N := some 18) (v := ?_) (a' := ?_) #[vT,vT,vT,vT,vF,vF,vF] rfl rfl (by kernel_rfl) (fun _ _ _ h => h) (Or.inl ⟨by rfl, ?_⟩) ?_ ?_
 rotate_left
 · intro w'; go_simp; with_reducible rfl
 rotate_left
 · simp only [Act.put, List.setIfInBounds_toArray, List.set, i64_w, i32_w]
   rfl
 refine pure_ (i := 4) (N := some 19) (v := ?_) (a' := ?_) #[vT,vT,vT,vT,vT,vF,vF] rfl rfl (by kernel_rfl) (fun _ _ _ h => h) (Or.inl ⟨by rfl, ?_⟩) ?_ ?_
 rotate_left
 · intro w'; go_simp; with_reducible rfl
 rotate_left
 · simp only [Act.put, List.setIfInBounds_toArray, List.set, i64_w, i32_w]
   rfl
 refine take_ (i := 5) (N := some 20) (v := ?_) (a' := ?_) #[vT,vT,vT,vT,vT,vT,vF] rfl rfl (by kernel_rfl) (fun _ _ _ h => h) (Or.inl ⟨by rfl, ?_⟩) hHeld ?_ ?_
 rotate_left
 · intro w' s0
   go_simp
   with_reducible rfl
 rotate_left
 · simp only [Act.put, List.setIfInBounds_toArray, List.set, i64_w, i32_w]
   rfl
 refine one_ (i := 6) (N := some 21) #[vT,vT,vT,vT,vT,vT,vT] rfl rfl (by kernel_rfl) (by decide) (fun K hK => ?_)
 refine step_copy_splice rfl (.tmp 18) (.tmp 20) 23 23 rfl 52 Tryz.underlying23 (by kernel_rfl) _ _ _ _ _ _ rfl rfl g 3 cells.toList 74 HBLK.out ((lr.take 32).map (Value.int .u64)) HLEN.out (fun h_ => ⟨rfl, HPOS.out h_⟩) HFIT.out (src_one lr 32) g W12.drew (Below.refl _ _) (Nat.le_refl g) ?_
 intro w13 hg13 hb13
 have HG13 := Aside0.mk hg13.out
 have HB13 := Aside0.mk hb13
 clear hg13 hb13
 refine hK.out _ _ ((HB13.out.cell HEG.out).trans x2) (fun hHeld => ?_)
 clear hK K
 refine norm_ (a' := ?_) ?_ ?_
 rotate_left
 · show Act.put _ (some 21) _ = _; simp only [Act.put, List.setIfInBounds_toArray, List.set, i64_w, i32_w]; rfl
 refine done_ (by kernel_rfl) ?_
 have M0 := Aside0.mk (show MB 74 42 w13 g _ from mb_copy HCELLS.out (by omega) HWR.out HG13.out)
 have HHK := Aside0.mk (show ∀ k, k < g → w13.heap[k]? = W12.heap[k]? from fun k hk => HB13.out.block k hk)
 have HP13 := Aside0.mk (HP.out.step HHK.out)
 have HBE := Aside0.mk (show Below w.heap.size w w13 from ⟨HB13.out.os.trans HL.out.os, HB13.out.tape.trans HL.out.tape, HB13.out.output.trans HL.out.output, Nat.le_trans HL.out.size HB13.out.size, fun k hk => (HB13.out.block k (by have := HEG.out; omega)).trans (HL.out.block k hk)⟩)
 have HENV13 := Aside0.mk ((HHK.out _ HEG.out).trans HENV.out)
 clear hHeld x2 y3 y4 HHK HB13 HG13 HP HL HENV HBLK HCELLS HSIZE HLEN HFIT HPOS HRC
 have c0_ : w13.cell? ⟨g, 3, none⟩ = some _ := M0.out.cell 3 (by omega)
 have c1_ : w13.cell? ⟨g, 4, none⟩ = some _ := M0.out.cell 4 (by omega)
 have c2_ : w13.cell? ⟨g, 5, none⟩ = some _ := M0.out.cell 5 (by omega)
 have c10_ : w13.cell? ⟨g, 13, none⟩ = some _ := M0.out.cell 13 (by omega)
 have e0_ : w13.frozen? ⟨g, 3, none⟩ = false := M0.out.frozen 3
 have e1_ : w13.frozen? ⟨g, 4, none⟩ = false := M0.out.frozen 4
 have e2_ : w13.frozen? ⟨g, 5, none⟩ = false := M0.out.frozen 5
 have e10_ : w13.frozen? ⟨g, 13, none⟩ = false := M0.out.frozen 13
 go_wp2_with fail
 refine start_ (n := 20) (S := fun w' => True) (ds := []) #[vF,vF,vF,vF,vF,vF,vF,vF,vF,vF,vF,vF,vF,vF,vF,vF,vF,vF,vF,vF] (by kernel_rfl) rfl rfl trivial (fun hHeld => ?_)
 refine pure_ (i := 0) (N := some 22) (v := ?_) (a' := ?_) #[vT,vF,vF,vF,vF,vF,vF,vF,vF,vF,vF,vF,vF,vF,vF,vF,vF,vF,vF,vF] rfl rfl (by kernel_rfl) (fun _ _ _ h => h) (Or.inl ⟨by rfl, ?_⟩) ?_ ?_
 rotate_left
 · intro w'; go_simp; with_reducible rfl
 rotate_left
 · simp only [Act.put, List.setIfInBounds_toArray, List.set, i64_w, i32_w]
   rfl
 refine pure_ (i := 1) (N := some 23) (v := ?_) (a' := ?_) #[vT,vT,vF,vF,vF,vF,vF,vF,vF,vF,vF,vF,vF,vF,vF,vF,vF,vF,vF,vF] rfl rfl (by kernel_rfl) (fun _ _ _ h => h) (Or.inl ⟨by rfl, ?_⟩) ?_ ?_
 rotate_left
 · intro w'; go_simp; with_reducible rfl
 rotate_left
 · simp only [Act.put, List.setIfInBounds_toArray, List.set, i64_w, i32_w]
   rfl
 refine pure_ (i := 2) (N := some 24) (v := ?_) (a' := ?_) #[vT,vT,vT,vF,vF,vF,vF,vF,vF,vF,vF,vF,vF,vF,vF,vF,vF,vF,vF,vF] rfl rfl (by kernel_rfl) (fun _ _ _ h => h) (Or.inl ⟨by rfl, ?_⟩) ?_ ?_
 rotate_left
 · intro w'; go_simp; with_reducible rfl
 rotate_left
 · simp only [Act.put, List.setIfInBounds_toArray, List.set, i64_w, i32_w]
   rfl
 refine pure_ (i := 3) (N := some 25) (v := ?_) (a' := ?_) #[vT,vT,vT,vT,vF,vF,vF,vF,vF,vF,vF,vF,vF,vF,vF,vF,vF,vF,vF,vF] rfl rfl (by kernel_rfl) (fun _ _ _ h => h) (Or.inl ⟨by rfl, ?_⟩) ?_ ?_
 rotate_left
 · intro w'; go_simp; with_reducible rfl
 rotate_left
 · simp only [Act.put, List.setIfInBounds_toArray, List.set, i64_w, i32_w]
   rfl
 refine pure_ (i := 4) (N := some 26) (v := ?_) (a' := ?_) #[vT,vT,vT,vT,vT,vF,vF,vF,vF,vF,vF,vF,vF,vF,vF,vF,vF,vF,vF,vF] rfl rfl (by kernel_rfl) (fun _ _ _ h => h) (Or.inl ⟨by rfl, ?_⟩) ?_ ?_
 rotate_left
 · intro w'; go_simp; with_reducible rfl
 rotate_left
 · simp only [Act.put, List.setIfInBounds_toArray, List.set, i64_w, i32_w]
   rfl
 refine pure_ (i := 5) (N := some 27) (v := ?_) (a' := ?_) #[vT,vT,vT,vT,vT,vT,vF,vF,vF,vF,vF,vF,vF,vF,vF,vF,vF,vF,vF,vF] rfl rfl (by kernel_rfl) (fun _ _ _ h => h) (Or.inl ⟨by rfl, ?_⟩) ?_ ?_
 rotate_left
 · intro w'; go_simp; with_reducible rfl
 rotate_left
 · simp only [Act.put, List.setIfInBounds_toArray, List.set, i64_w, i32_w]
   rfl
 refine pure_ (i := 6) (N := some 28) (v := ?_) (a' := ?_) #[vT,vT,vT,vT,vT,vT,vT,vF,vF,vF,vF,vF,vF,vF,vF,vF,vF,vF,vF,vF] rfl rfl (by kernel_rfl) (fun _ _ _ h => h) (Or.inl ⟨by rfl, ?_⟩) ?_ ?_
 rotate_left
 · intro w'; go_simp; with_reducible rfl
 rotate_left
 · simp only [Act.put, List.setIfInBounds_toArray, List.set, i64_w, i32_w]
   rfl
 refine pure_ (i := 8) (N := some 29) (v := ?_) (a' := ?_) #[vT,vT,vT,vT,vT,vT,vT,vF,vT,vF,vF,vF,vF,vF,vF,vF,vF,vF,vF,vF] rfl rfl (by kernel_rfl) (fun _ _ _ h => h) (Or.inl ⟨by rfl, ?_⟩) ?_ ?_
 rotate_left
 · intro w'; go_simp; with_reducible rfl
 rotate_left
 · simp only [Act.put, List.setIfInBounds_toArray, List.set, i64_w, i32_w]
   rfl
 refine pure_ (i := 9) (N := some 30) (v := ?_) (a' := ?_) #[vT,vT,vT,vT,vT,vT,vT,vF,vT,vT,vF,vF,vF,vF,vF,vF,vF,vF,vF,vF] rfl rfl (by kernel_rfl) (fun _ _ _ h => h) (Or.inl ⟨by rfl, ?_⟩) ?_ ?_
 rotate_left
 · intro w'; go_simp; with_reducible rfl
 rotate_left
 · simp only [Act.put, List.setIfInBounds_toArray, List.set, i64_w, i32_w]
   rfl
 refine pure_ (i := 12) (N := some 32) (v := ?_) (a' := ?_) #[vT,vT,vT,vT,vT,vT,vT,vF,vT,vT,vF,vF,vT,vF,vF,vF,vF,vF,vF,vF] rfl rfl (by kernel_rfl) (fun _ _ _ h => h) (Or.inl ⟨by rfl, ?_⟩) ?_ ?_
 rotate_left
 · intro w'; go_simp; with_reducible rfl
 rotate_left
 · simp only [Act.put, List.setIfInBounds_toArray, List.set, i64_w, i32_w]
   rfl
 refine pure_ (i := 13) (N := some 33) (v := ?_) (a' := ?_) #[vT,vT,vT,vT,vT,vT,vT,vF,vT,vT,vF,vF,vT,vT,vF,vF,vF,vF,vF,vF] rfl rfl (by kernel_rfl) (fun _ _ _ h => h) (Or.inl ⟨by rfl, ?_⟩) ?_ ?_
 rotate_left
 · intro w'; go_simp; with_reducible rfl
 rotate_left
 · simp only [Act.put, List.setIfInBounds_toArray, List.set, i64_w, i32_w]
   rfl
 refine pure_ (i := 16) (N := some 35) (v := ?_) (a' := ?_) #[vT,vT,vT,vT,vT,vT,vT,vF,vT,vT,vF,vF,vT,vT,vF,vF,vT,vF,vF,vF] rfl rfl (by kernel_rfl) (fun _ _ _ h => h) (Or.inl ⟨by rfl, ?_⟩) ?_ ?_
 rotate_left
 · intro w'; go_simp; with_reducible rfl
 rotate_left
 · simp only [Act.put, List.setIfInBounds_toArray, List.set, i64_w, i32_w]
   rfl
 refine pure_ (i := 17) (N := some 36) (v := ?_) (a' := ?_) #[vT,vT,vT,vT,vT,vT,vT,vF,vT,vT,vF,vF,vT,vT,vF,vF,vT,vT,vF,vF] rfl rfl (by kernel_rfl) (fun _ _ _ h => h) (Or.inl ⟨by rfl, ?_⟩) ?_ ?_
 rotate_left
 · intro w'; go_simp; with_reducible rfl
 rotate_left
 · simp only [Act.put, List.setIfInBounds_toArray, List.set, i64_w, i32_w]
   rfl
 refine one_ (i := 7) (N := none) #[vT,vT,vT,vT,vT,vT,vT,vT,vT,vT,vF,vF,vT,vT,vF,vF,vT,vT,vF,vF] rfl rfl (by kernel_rfl) (by decide) (fun K hK => ?_)
 refine skip_ (w1 := ?_) (by rfl) rfl ?_ ?_
 rotate_left
 · go_simp
   rfl
 refine hK.out _ _ trivial (fun hHeld => ?_)
 clear hK K
 refine pure_ (i := 10) (N := some 31) (v := ?_) (a' := ?_) #[vT,vT,vT,vT,vT,vT,vT,vT,vT,vT,vT,vF,vT,vT,vF,vF,vT,vT,vF,vF] rfl rfl (by kernel_rfl) (fun _ _ _ h => h) (Or.inl ⟨by rfl, ?_⟩) ?_ ?_
 rotate_left
 · intro w'; go_simp; with_reducible rfl
 rotate_left
 · simp only [Act.put, List.setIfInBounds_toArray, List.set, i64_w, i32_w]
   rfl
 refine one_ (i := 11) (N := none) #[vT,vT,vT,vT,vT,vT,vT,vT,vT,vT,vT,vT,vT,vT,vF,vF,vT,vT,vF,vF] rfl rfl (by kernel_rfl) (by decide) (fun K hK => ?_)
 refine skip_ (w1 := ?_) (by rfl) rfl ?_ ?_
 rotate_left
 · go_simp
   rfl
 refine hK.out _ _ trivial (fun hHeld => ?_)
 clear hK K
 refine pure_ (i := 14) (N := some 34) (v := ?_) (a' := ?_) #[vT,vT,vT,vT,vT,vT,vT,vT,vT,vT,vT,vT,vT,vT,vT,vF,vT,vT,vF,vF] rfl rfl (by kernel_rfl) (fun _ _ _ h => h) (Or.inl ⟨by rfl, ?_⟩) ?_ ?_
 rotate_left
 · intro w'; go_simp; with_reducible rfl
 rotate_left
 · simp only [Act.put, List.setIfInBounds_toArray, List.set, i64_w, i32_w]
   rfl
 refine one_ (i := 15) (N := none) #[vT,vT,vT,vT,vT,vT,vT,vT,vT,vT,vT,vT,vT,vT,vT,vT,vT,vT,vF,vF] rfl rfl (by kernel_rfl) (by decide) (fun K hK => ?_)
 refine skip_ (w1 := ?_) (by rfl) rfl ?_ ?_
 rotate_left
 · go_simp
   rfl
 refine hK.out _ _ trivial (fun hHeld => ?_)
 clear hK K
 refine pure_ (i := 18) (N := some 37) (v := ?_) (a' := ?_) #[vT,vT,vT,vT,vT,vT,vT,vT,vT,vT,vT,vT,vT,vT,vT,vT,vT,vT,vT,vF] rfl rfl (by kernel_rfl) (fun _ _ _ h => h) (Or.inl ⟨by rfl, ?_⟩) ?_ ?_
 rotate_left
 · intro w'; go_simp; with_reducible rfl
 rotate_left
 · simp only [Act.put, List.setIfInBounds_toArray, List.set, i64_w, i32_w]
   rfl
 refine one_ (i := 19) (N := none) #[vT,vT,vT,vT,vT,vT,vT,vT,vT,vT,vT,vT,vT,vT,vT,vT,vT,vT,vT,vT] rfl rfl (by kernel_rfl) (by decide) (fun K hK => ?_)
 refine skip_ (w1 := ?_) (by rfl) rfl ?_ ?_
 rotate_left
 · go_simp
   rfl
 refine hK.out _ _ trivial (fun hHeld => ?_)
 clear hK K
 refine done_ (by kernel_rfl) ?_
 have hm4 := mb_setr (mb_setr (mb_setr (mb_setr M0.out 0 (by omega) 0#64 0 rfl) 1 (by omega) 412316860416#64 412316860416 rfl) 2 (by omega) 2147418112#64 2147418112 rfl) 10 (by omega) 65536#64 65536 rfl
 rw [entry_setr] at hm4
 have HM4 := Aside0.mk (show MB 74 42 ((((w13.setCell ⟨g, 3, none⟩ (.int .u64 0)).setCell ⟨g, 4, none⟩ (.int .u64 412316860416)).setCell ⟨g, 5, none⟩ (.int .u64 2147418112)).setCell ⟨g, 13, none⟩ (.int .u64 65536)).drew g _ from hm4)
 have hk4 : ∀ k, k < g → (((((w13.setCell ⟨g, 3, none⟩ (.int .u64 0)).setCell ⟨g, 4, none⟩ (.int .u64 412316860416)).setCell ⟨g, 5, none⟩ (.int .u64 2147418112)).setCell ⟨g, 13, none⟩ (.int .u64 65536)).drew).heap[k]? = w13.heap[k]? := fun k hk => by
  have hne : k ≠ g := Nat.ne_of_lt hk
  exact (Below.heap_setCell _ _ _ k hne).trans ((Below.heap_setCell _ _ _ k hne).trans ((Below.heap_setCell _ _ _ k hne).trans (Below.heap_setCell _ _ _ k hne)))
 have HP4 := Aside0.mk (HP13.out.step hk4)
 have HENV4 := Aside0.mk ((hk4 _ HEG.out).trans HENV13.out)
 have hgw : w.heap.size ≤ g := Nat.le_of_lt HEG.out
 have HB4 := Aside0.mk (show Below w.heap.size w ((((w13.setCell ⟨g, 3, none⟩ (.int .u64 0)).setCell ⟨g, 4, none⟩ (.int .u64 412316860416)).setCell ⟨g, 5, none⟩ (.int .u64 2147418112)).setCell ⟨g, 13, none⟩ (.int .u64 65536)).drew from below_drew1 ((((HBE.out.setCell (p := ⟨g, 3, none⟩) hgw _).setCell (p := ⟨g, 4, none⟩) hgw _).setCell (p := ⟨g, 5, none⟩) hgw _).setCell (p := ⟨g, 13, none⟩) hgw _))
 clear hm4 hk4 hgw c0_ c1_ c2_ c10_ e0_ e1_ e2_ e10_ M0 HP13 HBE HENV13 hHeld
 generalize ((((w13.setCell ⟨g, 3, none⟩ (.int .u64 0)).setCell ⟨g, 4, none⟩ (.int .u64 412316860416)).setCell ⟨g, 5, none⟩ (.int .u64 2147418112)).setCell ⟨g, 13, none⟩ (.int .u64 65536)).drew = W4 at *
 have y4 := blk_cell HENV4.out 4
 have y3 := blk_cell HENV4.out 3
 simp only [List.getElem?_toArray, List.getElem?_cons_zero, List.getElem?_cons_succ] at y3 y4
 have c38 : W4.cell? ⟨g, 38, none⟩ = some (.bool false) := HM4.out.cell 38 (by omega)
 have c39 : W4.cell? ⟨g, 39, none⟩ = some (.int .i64 0) := HM4.out.cell 39 (by omega)
 have e38 := HM4.out.frozen 38
 have e39 := HM4.out.frozen 39
 have HGL := Aside0.mk HM4.out.lt
 by_cases hneg : fr < 0
 · have t1 : decide (fr < 0) = true := decide_eq_true hneg
   have hO := out_bad (lr := lr) (ls := ls) (fr := fr) HP4.out HCD.out HM4.out (.inl hneg) HBD.out
   have HO := Aside0.mk hO
   have HBF := Aside0.mk ((HB4.out.setCell (p := ⟨g, 38, none⟩) (Nat.le_of_lt HEG.out) (.bool true)).setCell (p := ⟨g, 39, none⟩) (Nat.le_of_lt HEG.out) (.int .i64 1))
   clear hneg hO
   go_wp2_with fail
   go_ret
   exact ⟨g, gm, _, _, _, rfl, HO.out, HBF.out⟩
 by_cases hbig : 1048576 < fr
 · have t1 : decide (fr < 0) = false := decide_eq_false hneg
   have t2 : decide (fr > 1048576) = true := decide_eq_true hbig
   have t3 : decide (1048576 < fr) = true := decide_eq_true hbig
   have hO := out_bad (lr := lr) (ls := ls) (fr := fr) HP4.out HCD.out HM4.out (.inr hbig) HBD.out
   have HO := Aside0.mk hO
   have HBF := Aside0.mk ((HB4.out.setCell (p := ⟨g, 38, none⟩) (Nat.le_of_lt HEG.out) (.bool true)).setCell (p := ⟨g, 39, none⟩) (Nat.le_of_lt HEG.out) (.int .i64 1))
   clear hneg hbig hO
   go_wp2_with fail
   go_ret
   exact ⟨g, gm, _, _, _, rfl, HO.out, HBF.out⟩
 · have t1 : decide (fr < 0) = false := decide_eq_false hneg
   have t2 : decide (fr > 1048576) = false := decide_eq_false hbig
   have t3 : decide (1048576 < fr) = false := decide_eq_false hbig
   have HNB := Aside0.mk (show ¬ bad fr from by unfold bad; omega)
   have HF := Aside0.mk (HS34.out W4 HB4.out (by omega) (by omega))
   clear hneg hbig HS34 c38 c39 e38 e39
   go_wp2_with fail
   refine HF.out.mono ?_
   rintro e W5 ⟨f, rfl, hf⟩
   obtain ⟨Af, nf, cf, ef⟩ : ∃ Af nf cf, f = .slice Af nf cf := by
    obtain ⟨A, c, e, _⟩ := hf.1
    exact ⟨A, _, c, e⟩
   subst ef
   have hO := out_ok (lr := lr) (fr := fr) HP4.out HCD.out HM4.out HNB.out HBD.out HBS.out hf
   have HO := Aside0.mk hO
   have HBF := Aside0.mk ((below_step HB4.out hf.2.2).setCell (p := ⟨g, 2, none⟩) (Nat.le_of_lt HEG.out) (.slice Af nf cf))
   have c2 : W5.cell? ⟨g, 2, none⟩ = some (.slice none 0 0) := (HM4.out.below hf.2.2).cell 2 (by omega)
   have e2 := (HM4.out.below hf.2.2).frozen 2
   clear hO hf
   go_wp2_with fail
   go_ret
   exact ⟨g, gm, _, _, _, rfl, HO.out, HBF.out⟩
end Go.Proofs.YtcgkgaibomcheaaGreat.ENew
end
section
namespace Go.Proofs.YtcgkgaibomcheaaGreat.EOut
open Go.RowKit Bits Mac Mb Rd RDec EM PRvemuRuns YtcgkgaibomcheaaGreatW.PrintWords YtcgkgaibomcheaaGreatW.PrintLast YtcgkgaibomcheaaGreatW.PrintMore
def regsOf (m : Mac) : List Int := (List.range 32).map fun i => U (m.x i)
def atOf (m : Mac) : Int := if m.err = 0 then 0 else Ends.place m.pc
theorem regs_len (m : Mac) : (regsOf m).length = 32 := by unfold regsOf; rw [List.length_map, List.length_range]
theorem regs_C {T n : Nat} {W : World} {g : Nat} {m : Mac} {c d f t q : Value} (h : MB T n W g (vals m c d f t q)) (hn : 35 ≤ n) : Kd.C (Kd.int .u64) W (some ⟨g, 3, none⟩) (regsOf m).length (regsOf m) := by
 refine ⟨rfl, by rw [regs_len]; omega, fun _ => ⟨_, rfl, fun j p hj => ⟨[.int .u64 p], rfl, rfl, fun i u hi => ?_⟩⟩⟩
 obtain ⟨hjl, hjp⟩ := List.getElem?_eq_some_iff.1 hj
 rw [regs_len] at hjl
 have hi0 : i = 0 := by
  have := (List.getElem?_eq_some_iff.1 hi).1
  simpa using this
 subst hi0
 have hu : u = .int .u64 p := by simpa using hi.symm
 subst hu
 have ea : (⟨g, 3, none⟩ : Addr).add (j * (Kd.int .u64).sz + 0) = ⟨g, 3 + j, none⟩ := by
  show (⟨g, 3, none⟩ : Addr).add (j * 1 + 0) = _
  simp [Addr.add]
 have hp : U (m.x j) = p := by
  unfold regsOf at hj
  rw [List.getElem?_map, List.getElem?_range hjl] at hj
  simpa using hj
 rw [ea, h.cell (3 + j) (by omega), vals_x _ _ _ _ _ _ _ hjl, hp]
theorem results_c {P : Program} {fn : Func} {p : Tmp} {ty : TypeId} (h : fn.results = #[.cell p ty]) (tmps : Array Value) (w : World) (g : Nat) (t : TypeId) (cs : Array Value) (fr : Nat × Nat) (d : TypeDesc)
 (hp : tmps.getD p undef = .pointer (some ⟨g, 0, none⟩)) (hg : w.heap[g]? = some (.cells cs t fr))
 (hu : P.underlying ty = some d) (hd : (match d with | .struct _ | .array _ _ => true | _ => false) = true) (hi : (P.info? ty).map (·.size) = some cs.size) :
 (results fn tmps).run P w = .ok (.agg cs) w := results_single h (.cell g t cs fr d hp hg hu hd hi .nil)
theorem R_put5 {α : Type} {d : Kd α} {e base : Nat} {ok : Nat → Prop} {w : World} {v : Value} {xs : List α} {g T : Nat} {cells : Array Value} (h : d.R e w base ok v xs) (hb : w.heap[g]? = some (.cells cells T (0, 0))) (ht : ∀ q, q ∈ e :: d.E → q ≠ T) (u0 u1 u2 u3 u4 : Value) : d.R e (put5 w g u0 u1 u2 u3 u4) base ok v xs :=
 Kd.R_mono (Kd.R_step (Kd.R_types h hb ht) (fun k hk _ => put5_far _ _ _ _ _ hk.2)) (fun k hk => hk.1)
set_option maxRecDepth 20000 in
set_option maxHeartbeats 2000000 in
theorem outcome (g : Nat) (m : Mac) (c d f t q : Value) (w : World) (h : MB 74 42 w g (vals m c d f t q)) (ht : TrAt w t m.tr) (hl : m.tr.length ≤ 1000000000) :
 Calls Tryz.prog 21 #[.pointer (some ⟨g, 0, none⟩)] w fun e w' => ∃ vr vt : Value, e = .returned (.agg #[.int .i64 m.err, .int .i64 (atOf m), .int .i64 m.steps, vr, vt]) ∧ Kd.R (Kd.int .u64) 52 w' w.heap.size (fun _ => True) vr (regsOf m) ∧ Kd.R k54 54 w' w.heap.size (fun _ => True) vt m.tr ∧ Below w.heap.size w w' := by
 obtain ⟨At, ct, rfl, hct, hC⟩ := Kd.R_reads ht
 have hbz := below_alloc (Below.refl w.heap.size w) (.cells #[.int .i64 0, .int .i64 0, .int .i64 0, .slice none 0 0, .slice none 0 0] 31)
 have HH := Aside0.mk (h.below hbz)
 have HCC := Aside0.mk (Kd.C_below hC hbz)
 have HOW := Aside0.mk (blk_new w (.cells #[.int .i64 0, .int .i64 0, .int .i64 0, .slice none 0 0, .slice none 0 0] 31))
 have HG := Aside0.mk h.lt
 have HB := Aside0.mk hbz
 clear h ht hC hbz
 have hle0 : w.heap.size ≤ (w.alloc (.cells #[.int .i64 0, .int .i64 0, .int .i64 0, .slice none 0 0, .slice none 0 0] 31)).heap.size := by rw [World.size_alloc]; omega
 have HSZ := Aside0.mk (show w.heap.size < (w.alloc (.cells #[.int .i64 0, .int .i64 0, .int .i64 0, .slice none 0 0, .slice none 0 0] 31)).heap.size from by rw [World.size_alloc]; omega)
 obtain ⟨W0, hW0⟩ : ∃ W0, w.alloc (.cells #[.int .i64 0, .int .i64 0, .int .i64 0, .slice none 0 0, .slice none 0 0] 31) = W0 := ⟨_, rfl⟩
 rw [hW0] at HH HCC HOW HB HSZ
 have HW0 := Aside0.mk hW0
 clear hW0 hle0
 have x39 : W0.cell? ⟨g, 39, none⟩ = some (.int .i64 m.err) := HH.out.cell 39 (by omega)
 have x37 : W0.cell? ⟨g, 37, none⟩ = some (.int .i64 m.steps) := HH.out.cell 37 (by omega)
 have x40 : W0.cell? ⟨g, 40, none⟩ = some (.slice At m.tr.length ct) := HH.out.cell 40 (by omega)
 have HGP := Aside0.mk (show ∀ pb : Nat, W0.heap.size ≤ pb → g ≠ pb from fun pb hp => by have := HG.out; have := HSZ.out; omega)
 have HCR := Aside0.mk (show ∀ W1, Below W0.heap.size W0 W1 → Calls Tryz.prog 37 #[.slice (some ⟨g, 3, none⟩) 32 32] W1 fun e w' => ∃ A1 c1, e = .returned (.slice A1 32 c1) ∧ Kd.R (Kd.int .u64) 52 w' W1.heap.size (fun _ => True) (.slice A1 32 c1) (regsOf m) ∧ Below W1.heap.size W1 w' from fun W1 hb => by
  have hc := Clone.clone37 (some ⟨g, 3, none⟩) 32 (regsOf m) W1 (regs_C (HH.out.below hb) (by omega)) (by rw [regs_len]; omega)
  rw [regs_len] at hc
  refine hc.mono fun e w' hh => ?_
  obtain ⟨v, he, hr, hb⟩ := hh
  obtain ⟨A1, c1, hv⟩ := Kd.R_slice hr
  rw [regs_len] at hv
  subst hv
  exact ⟨A1, c1, he, hr, hb⟩)
 have HCT := Aside0.mk (show ∀ W1, Below W0.heap.size W0 W1 → Calls Tryz.prog 38 #[.slice At m.tr.length ct] W1 fun e w' => ∃ A2 c2, e = .returned (.slice A2 m.tr.length c2) ∧ Kd.R k54 54 w' W1.heap.size (fun _ => True) (.slice A2 m.tr.length c2) m.tr ∧ Below W1.heap.size W1 w' from fun W1 hb => by
  refine (Clone.clone38 At ct m.tr W1 (Kd.C_below HCC.out hb) (by omega)).mono fun e w' hh => ?_
  obtain ⟨v, he, hr, hb⟩ := hh
  obtain ⟨A2, c2, hv⟩ := Kd.R_slice hr
  subst hv
  exact ⟨A2, c2, he, hr, hb⟩)
 have HPL := Aside0.mk (fun (W1 : World) (hb : Below W0.heap.size W0 W1) => Ends.place_emu g _ m.pc W1 (HH.out.below hb) rfl)
 have hat : atOf m = if m.err = 0 then 0 else Ends.place m.pc := rfl
 have HAT := Aside0.mk (show (m.err = 0 → atOf m = 0) ∧ (m.err ≠ 0 → atOf m = Ends.place m.pc) from ⟨fun h => hat.trans (if_pos h), fun h => hat.trans (if_neg h)⟩)
 clear hat
 generalize atOf m = at_ at *
 generalize Ends.place m.pc = pl at *
 have L := below_drew1 (Below.refl W0.heap.size W0)
 generalize regsOf m = rg at *
 obtain ⟨tr, htr⟩ : ∃ tr, m.tr = tr := ⟨_, rfl⟩
 rw [htr] at HCC HCT x40 hl ⊢
 clear htr
 obtain ⟨T, hT⟩ : ∃ T, tr.length = T := ⟨_, rfl⟩
 rw [hT] at HCC HCT x40 hl
 clear hT
 generalize m.err = er at *
 generalize m.steps = st at *
 clear HH
 go_enter Tryz.func21, Tryz.ntmps21
 go_wp2_with fail
 rw [HW0.out]
 clear HW0
 refine start_ (n := 21) (S := fun w' => w'.cell? ⟨g, 39, none⟩ = some (.int .i64 er) ∧ w'.cell? ⟨g, 37, none⟩ = some (.int .i64 st) ∧ w'.cell? ⟨g, 40, none⟩ = some (.slice At T ct)) (ds := []) #[vF,vF,vF,vF,vF,vF,vF,vF,vF,vF,vF,vF,vF,vF,vF,vF,vF,vF,vF,vF,vF] (by kernel_rfl) rfl rfl ⟨kB L x39, kB L x37, kB L x40⟩ (fun hHeld => ?_)
 refine pure_ (i := 0) (N := some 4) (v := ?_) (a' := ?_) #[vT,vF,vF,vF,vF,vF,vF,vF,vF,vF,vF,vF,vF,vF,vF,vF,vF,vF,vF,vF,vF] rfl rfl (by kernel_rfl) (fun _ _ _ h => h) (Or.inl ⟨by rfl, ?_⟩) ?_ ?_
 rotate_left
 · intro w'; go_simp; with_reducible rfl
 rotate_left
 · simp only [Act.put, List.setIfInBounds_toArray, List.set, i64_w, i32_w]
   rfl
 refine pure_ (i := 1) (N := some 5) (v := ?_) (a' := ?_) #[vT,vT,vF,vF,vF,vF,vF,vF,vF,vF,vF,vF,vF,vF,vF,vF,vF,vF,vF,vF,vF] rfl rfl (by kernel_rfl) (fun _ _ _ h => h) (Or.inl ⟨by rfl, ?_⟩) ?_ ?_
 rotate_left
 · intro w'; go_simp; with_reducible rfl
 rotate_left
 · simp only [Act.put, List.setIfInBounds_toArray, List.set, i64_w, i32_w]
   rfl
 refine pure_ (i := 2) (N := some 6) (v := ?_) (a' := ?_) #[vT,vT,vT,vF,vF,vF,vF,vF,vF,vF,vF,vF,vF,vF,vF,vF,vF,vF,vF,vF,vF] rfl rfl (by kernel_rfl) (fun _ _ _ h => h) (Or.inl ⟨by rfl, ?_⟩) ?_ ?_
 rotate_left
 · intro w'; go_simp; with_reducible rfl
 rotate_left
 · simp only [Act.put, List.setIfInBounds_toArray, List.set, i64_w, i32_w]
   rfl
 refine pure_ (i := 4) (N := some 8) (v := ?_) (a' := ?_) #[vT,vT,vT,vF,vT,vF,vF,vF,vF,vF,vF,vF,vF,vF,vF,vF,vF,vF,vF,vF,vF] rfl rfl (by kernel_rfl) (fun _ _ _ h => h) (Or.inl ⟨by rfl, ?_⟩) ?_ ?_
 rotate_left
 · intro w'; go_simp; with_reducible rfl
 rotate_left
 · simp only [Act.put, List.setIfInBounds_toArray, List.set, i64_w, i32_w]
   rfl
 refine pure_ (i := 5) (N := some 9) (v := ?_) (a' := ?_) #[vT,vT,vT,vF,vT,vT,vF,vF,vF,vF,vF,vF,vF,vF,vF,vF,vF,vF,vF,vF,vF] rfl rfl (by kernel_rfl) (fun _ _ _ h => h) (Or.inl ⟨by rfl, ?_⟩) ?_ ?_
 rotate_left
 · intro w'; go_simp; with_reducible rfl
 rotate_left
 · simp only [Act.put, List.setIfInBounds_toArray, List.set, i64_w, i32_w]
   rfl
 refine pure_ (i := 6) (N := some 10) (v := ?_) (a' := ?_) #[vT,vT,vT,vF,vT,vT,vT,vF,vF,vF,vF,vF,vF,vF,vF,vF,vF,vF,vF,vF,vF] rfl rfl (by kernel_rfl) (fun _ _ _ h => h) (Or.inl ⟨by rfl, ?_⟩) ?_ ?_
 rotate_left
 · intro w'; go_simp; with_reducible rfl
 rotate_left
 · simp only [Act.put, List.setIfInBounds_toArray, List.set, i64_w, i32_w]
   rfl
 refine pure_ (i := 8) (N := some 12) (v := ?_) (a' := ?_) #[vT,vT,vT,vF,vT,vT,vT,vF,vT,vF,vF,vF,vF,vF,vF,vF,vF,vF,vF,vF,vF] rfl rfl (by kernel_rfl) (fun _ _ _ h => h) (Or.inl ⟨by rfl, ?_⟩) ?_ ?_
 rotate_left
 · intro w'; go_simp; with_reducible rfl
 rotate_left
 · simp only [Act.put, List.setIfInBounds_toArray, List.set, i64_w, i32_w]
   rfl
 refine pure_ (i := 9) (N := some 13) (v := ?_) (a' := ?_) #[vT,vT,vT,vF,vT,vT,vT,vF,vT,vT,vF,vF,vF,vF,vF,vF,vF,vF,vF,vF,vF] rfl rfl (by kernel_rfl) (fun _ _ _ h => h) (Or.inl ⟨by rfl, ?_⟩) ?_ ?_
 rotate_left
 · intro w'; go_simp; with_reducible rfl
 rotate_left
 · simp only [Act.put, List.setIfInBounds_toArray, List.set, i64_w, i32_w]
   rfl
 refine pure_ (i := 10) (N := some 14) (v := ?_) (a' := ?_) #[vT,vT,vT,vF,vT,vT,vT,vF,vT,vT,vT,vF,vF,vF,vF,vF,vF,vF,vF,vF,vF] rfl rfl (by kernel_rfl) (fun _ _ _ h => h) (Or.inl ⟨by rfl, ?_⟩) ?_ ?_
 rotate_left
 · intro w'; go_simp; with_reducible rfl
 rotate_left
 · simp only [Act.put, List.setIfInBounds_toArray, List.set, i64_w, i32_w]
   rfl
 refine pure_ (i := 11) (N := some 15) (v := ?_) (a' := ?_) #[vT,vT,vT,vF,vT,vT,vT,vF,vT,vT,vT,vT,vF,vF,vF,vF,vF,vF,vF,vF,vF] rfl rfl (by kernel_rfl) (fun _ _ _ h => h) (Or.inl ⟨by rfl, ?_⟩) ?_ ?_
 rotate_left
 · intro w'; go_simp; with_reducible rfl
 rotate_left
 · simp only [Act.put, List.setIfInBounds_toArray, List.set, i64_w, i32_w]
   rfl
 refine pure_ (i := 13) (N := some 17) (v := ?_) (a' := ?_) #[vT,vT,vT,vF,vT,vT,vT,vF,vT,vT,vT,vT,vF,vT,vF,vF,vF,vF,vF,vF,vF] rfl rfl (by kernel_rfl) (fun _ _ _ h => h) (Or.inl ⟨by rfl, ?_⟩) ?_ ?_
 rotate_left
 · intro w'; go_simp; with_reducible rfl
 rotate_left
 · simp only [Act.put, List.setIfInBounds_toArray, List.set, i64_w, i32_w]
   rfl
 refine pure_ (i := 14) (N := some 18) (v := ?_) (a' := ?_) #[vT,vT,vT,vF,vT,vT,vT,vF,vT,vT,vT,vT,vF,vT,vT,vF,vF,vF,vF,vF,vF] rfl rfl (by kernel_rfl) (fun _ _ _ h => h) (Or.inl ⟨by rfl, ?_⟩) ?_ ?_
 rotate_left
 · intro w'; go_simp; with_reducible rfl
 rotate_left
 · simp only [Act.put, List.setIfInBounds_toArray, List.set, i64_w, i32_w]
   rfl
 refine pure_ (i := 15) (N := some 19) (v := ?_) (a' := ?_) #[vT,vT,vT,vF,vT,vT,vT,vF,vT,vT,vT,vT,vF,vT,vT,vT,vF,vF,vF,vF,vF] rfl rfl (by kernel_rfl) (fun _ _ _ h => h) (Or.inl ⟨by rfl, ?_⟩) ?_ ?_
 rotate_left
 · intro w'; go_simp; with_reducible rfl
 rotate_left
 · simp only [Act.put, List.setIfInBounds_toArray, List.set, i64_w, i32_w]
   rfl
 refine take_ (i := 3) (N := some 7) (v := ?_) (a' := ?_) #[vT,vT,vT,vT,vT,vT,vT,vF,vT,vT,vT,vT,vF,vT,vT,vT,vF,vF,vF,vF,vF] rfl rfl (by kernel_rfl) (fun _ _ _ h => h) (Or.inl ⟨by rfl, ?_⟩) hHeld ?_ ?_
 rotate_left
 · rintro w' ⟨s0, s1, s2⟩; go_simp; with_reducible rfl
 rotate_left
 · simp only [Act.put, List.setIfInBounds_toArray, List.set, i64_w, i32_w]
   rfl
 refine take_ (i := 7) (N := some 11) (v := ?_) (a' := ?_) #[vT,vT,vT,vT,vT,vT,vT,vT,vT,vT,vT,vT,vF,vT,vT,vT,vF,vF,vF,vF,vF] rfl rfl (by kernel_rfl) (fun _ _ _ h => h) (Or.inl ⟨by rfl, ?_⟩) hHeld ?_ ?_
 rotate_left
 · rintro w' ⟨s0, s1, s2⟩; go_simp; with_reducible rfl
 rotate_left
 · simp only [Act.put, List.setIfInBounds_toArray, List.set, i64_w, i32_w]
   rfl
 refine take_ (i := 16) (N := some 20) (v := ?_) (a' := ?_) #[vT,vT,vT,vT,vT,vT,vT,vT,vT,vT,vT,vT,vF,vT,vT,vT,vT,vF,vF,vF,vF] rfl rfl (by kernel_rfl) (fun _ _ _ h => h) (Or.inl ⟨by rfl, ?_⟩) hHeld ?_ ?_
 rotate_left
 · rintro w' ⟨s0, s1, s2⟩; go_simp; with_reducible rfl
 rotate_left
 · simp only [Act.put, List.setIfInBounds_toArray, List.set, i64_w, i32_w]
   rfl
 refine join_ (σ := (Option Addr × Nat) × (Option Addr × Nat) × Nat) 1 #[vT,vT,vT,vT,vT,vT,vT,vT,vT,vT,vT,vT,vT,vT,vT,vT,vT,vT,vT,vT,vF] (fun s => [(16, Value.slice s.1.1 32 s.1.2), (21, Value.slice s.2.1.1 T s.2.1.2), (22, Value.agg #[.int .i64 er, .int .i64 0, .int .i64 st, .slice s.1.1 32 s.1.2, .slice s.2.1.1 T s.2.1.2]), (3, Value.pointer (some ⟨s.2.2, 0, none⟩))]) (fun s w' => Kd.R (Kd.int .u64) 52 w' W0.heap.size (fun _ => True) (.slice s.1.1 32 s.1.2) rg ∧ Kd.R k54 54 w' W0.heap.size (fun _ => True) (.slice s.2.1.1 T s.2.1.2) tr ∧ w'.heap[s.2.2]? = some (.cells #[.int .i64 0, .int .i64 0, .int .i64 0, .slice none 0 0, .slice none 0 0] 31 (0, 0)) ∧ Below W0.heap.size W0 w' ∧ W0.heap.size ≤ s.2.2) ?_ ?_
 rotate_left
 · intro hCont
   refine two_ (i := 12) (j := 19) (Ni := some 16) (Nj := some 3) #[vT,vT,vT,vT,vT,vT,vT,vT,vT,vT,vT,vT,vT,vT,vT,vT,vT,vF,vF,vF,vF] #[vT,vT,vT,vT,vT,vT,vT,vT,vT,vT,vT,vT,vF,vT,vT,vT,vT,vF,vF,vT,vF] rfl rfl rfl rfl (by kernel_rfl) (by decide) (by decide) (fun K hK => ?_) (fun K hK => ?_)
   · skip
     refine goes_ Tryz.func37 (by kernel_rfl) rfl #[.slice (some ⟨g, 3, none⟩) 32 32] (by rfl) rfl rfl (by simp only [List.map_toArray, List.map_cons, List.map_nil]; rfl) ?_
     with_reducible refine (HCR.out _ L).mono ?_
     rintro e w9 ⟨A1, c1, rfl, hr16, hb16⟩
     refine ⟨_, rfl, ?_⟩
     have hrr := Kd.R_lower hr16 (below_size L)
     have L := below_step L hb16
     refine hK.out _ _ ⟨kB L x39, kB L x37, kB L x40⟩ (fun hHeld => ?_)
     clear hK K
     refine norm_ (a' := ?_) ?_ ?_
     rotate_left
     · show Act.put _ (some 16) _ = _; simp only [Act.put, List.setIfInBounds_toArray, List.set, i64_w, i32_w]; rfl
     refine two_ (i := 17) (j := 19) (Ni := some 21) (Nj := some 3) #[vT,vT,vT,vT,vT,vT,vT,vT,vT,vT,vT,vT,vT,vT,vT,vT,vT,vT,vF,vF,vF] #[vT,vT,vT,vT,vT,vT,vT,vT,vT,vT,vT,vT,vT,vT,vT,vT,vT,vF,vF,vT,vF] rfl rfl rfl rfl (by kernel_rfl) (by decide) (by decide) (fun K hK => ?_) (fun K hK => ?_)
     · skip
       refine goes_ Tryz.func38 (by kernel_rfl) rfl #[.slice At T ct] (by rfl) rfl rfl (by simp only [List.map_toArray, List.map_cons, List.map_nil]; rfl) ?_
       with_reducible refine (HCT.out _ L).mono ?_
       rintro e w10 ⟨A2, c2, rfl, hr21, hb21⟩
       refine ⟨_, rfl, ?_⟩
       have hrt := Kd.R_lower hr21 (below_size L)
       have hrr := Kd.R_below hrr hb21
       have L := below_step L hb21
       refine hK.out _ _ ⟨kB L x39, kB L x37, kB L x40⟩ (fun hHeld => ?_)
       clear hK K
       refine norm_ (a' := ?_) ?_ ?_
       rotate_left
       · show Act.put _ (some 21) _ = _; simp only [Act.put, List.setIfInBounds_toArray, List.set, i64_w, i32_w]; rfl
       refine pure_ (i := 18) (N := some 22) (v := ?_) (a' := ?_) #[vT,vT,vT,vT,vT,vT,vT,vT,vT,vT,vT,vT,vT,vT,vT,vT,vT,vT,vT,vF,vF] rfl rfl (by kernel_rfl) (fun _ _ _ h => h) (Or.inl ⟨by rfl, ?_⟩) ?_ ?_
       rotate_left
       · intro w'; go_simp; with_reducible rfl
       rotate_left
       · simp only [Act.put, List.setIfInBounds_toArray, List.set, i64_w, i32_w]
         rfl
       refine one_ (i := 19) (N := some 3) #[vT,vT,vT,vT,vT,vT,vT,vT,vT,vT,vT,vT,vT,vT,vT,vT,vT,vT,vT,vT,vF] rfl rfl (by kernel_rfl) (by decide) (fun K hK => ?_)
       refine value_ (w1 := ?_) (v := ?_) (by rfl) rfl ?_ ?_
       rotate_left 2
       · go_simp
         constructor
         · rfl
         · rfl
       have hle := below_size L
       have ha := blk_new w10 (.cells #[.int .i64 0, .int .i64 0, .int .i64 0, .slice none 0 0, .slice none 0 0] 31)
       have hrr := Kd.R_alloc hrr (.cells #[.int .i64 0, .int .i64 0, .int .i64 0, .slice none 0 0, .slice none 0 0] 31)
       have hrt := Kd.R_alloc hrt (.cells #[.int .i64 0, .int .i64 0, .int .i64 0, .slice none 0 0, .slice none 0 0] 31)
       have L := below_alloc L (.cells #[.int .i64 0, .int .i64 0, .int .i64 0, .slice none 0 0, .slice none 0 0] 31)
       refine hK.out _ _ ⟨kB L x39, kB L x37, kB L x40⟩ (fun hHeld => ?_)
       clear hK K
       refine norm_ (a' := ?_) ?_ ?_
       rotate_left
       · show Act.put _ (some 3) _ = _; simp only [Act.put, List.setIfInBounds_toArray, List.set, i64_w, i32_w]; rfl
       exact norm_ (by simp only [putAll, Act.put, List.setIfInBounds_toArray, List.set]) (hCont ((A1, c1), (A2, c2), w10.heap.size) _ ⟨hrr, hrt, ha, L, hle⟩)
     · skip
       refine value_ (w1 := ?_) (v := ?_) (by rfl) rfl ?_ ?_
       rotate_left 2
       · go_simp
         constructor
         · rfl
         · rfl
       have hle := below_size L
       have ha := blk_new w9 (.cells #[.int .i64 0, .int .i64 0, .int .i64 0, .slice none 0 0, .slice none 0 0] 31)
       have hrr := Kd.R_alloc hrr (.cells #[.int .i64 0, .int .i64 0, .int .i64 0, .slice none 0 0, .slice none 0 0] 31)
       have L := below_alloc L (.cells #[.int .i64 0, .int .i64 0, .int .i64 0, .slice none 0 0, .slice none 0 0] 31)
       refine hK.out _ _ ⟨kB L x39, kB L x37, kB L x40⟩ (fun hHeld => ?_)
       clear hK K
       refine norm_ (a' := ?_) ?_ ?_
       rotate_left
       · show Act.put _ (some 3) _ = _; simp only [Act.put, List.setIfInBounds_toArray, List.set, i64_w, i32_w]; rfl
       refine one_ (i := 17) (N := some 21) #[vT,vT,vT,vT,vT,vT,vT,vT,vT,vT,vT,vT,vT,vT,vT,vT,vT,vT,vF,vT,vF] rfl rfl (by kernel_rfl) (by decide) (fun K hK => ?_)
       refine goes_ Tryz.func38 (by kernel_rfl) rfl #[.slice At T ct] (by rfl) rfl rfl (by simp only [List.map_toArray, List.map_cons, List.map_nil]; rfl) ?_
       with_reducible refine (HCT.out _ L).mono ?_
       rintro e w10 ⟨A2, c2, rfl, hr21, hb21⟩
       refine ⟨_, rfl, ?_⟩
       have hrt := Kd.R_lower hr21 (below_size L)
       have hrr := Kd.R_below hrr hb21
       have L := below_step L hb21
       have ha := blk_below ha hb21
       refine hK.out _ _ ⟨kB L x39, kB L x37, kB L x40⟩ (fun hHeld => ?_)
       clear hK K
       refine norm_ (a' := ?_) ?_ ?_
       rotate_left
       · show Act.put _ (some 21) _ = _; simp only [Act.put, List.setIfInBounds_toArray, List.set, i64_w, i32_w]; rfl
       refine pure_ (i := 18) (N := some 22) (v := ?_) (a' := ?_) #[vT,vT,vT,vT,vT,vT,vT,vT,vT,vT,vT,vT,vT,vT,vT,vT,vT,vT,vT,vT,vF] rfl rfl (by kernel_rfl) (fun _ _ _ h => h) (Or.inl ⟨by rfl, ?_⟩) ?_ ?_
       rotate_left
       · intro w'; go_simp; with_reducible rfl
       rotate_left
       · simp only [Act.put, List.setIfInBounds_toArray, List.set, i64_w, i32_w]
         rfl
       exact norm_ (by simp only [putAll, Act.put, List.setIfInBounds_toArray, List.set]) (hCont ((A1, c1), (A2, c2), w9.heap.size) _ ⟨hrr, hrt, ha, L, hle⟩)
   · skip
     refine value_ (w1 := ?_) (v := ?_) (by rfl) rfl ?_ ?_
     rotate_left 2
     · go_simp
       constructor
       · rfl
       · rfl
     have hle := below_size L
     have ha : (W0.alloc (.cells #[.int .i64 0, .int .i64 0, .int .i64 0, .slice none 0 0, .slice none 0 0] 31)).drew.heap[W0.heap.size]? = some (.cells #[.int .i64 0, .int .i64 0, .int .i64 0, .slice none 0 0, .slice none 0 0] 31 (0, 0)) := blk_new W0 _
     have L : Below W0.heap.size W0 (W0.alloc (.cells #[.int .i64 0, .int .i64 0, .int .i64 0, .slice none 0 0, .slice none 0 0] 31)).drew := below_drew1 (below_alloc (Below.refl _ _) _)
     refine hK.out _ _ ⟨kB L x39, kB L x37, kB L x40⟩ (fun hHeld => ?_)
     clear hK K
     refine norm_ (a' := ?_) ?_ ?_
     rotate_left
     · show Act.put _ (some 3) _ = _; simp only [Act.put, List.setIfInBounds_toArray, List.set, i64_w, i32_w]; rfl
     refine one_ (i := 12) (N := some 16) #[vT,vT,vT,vT,vT,vT,vT,vT,vT,vT,vT,vT,vT,vT,vT,vT,vT,vF,vF,vT,vF] rfl rfl (by kernel_rfl) (by decide) (fun K hK => ?_)
     refine goes_ Tryz.func37 (by kernel_rfl) rfl #[.slice (some ⟨g, 3, none⟩) 32 32] (by rfl) rfl rfl (by simp only [List.map_toArray, List.map_cons, List.map_nil]; rfl) ?_
     with_reducible refine (HCR.out _ L).mono ?_
     rintro e w9 ⟨A1, c1, rfl, hr16, hb16⟩
     refine ⟨_, rfl, ?_⟩
     have hrr := Kd.R_lower hr16 (below_size L)
     have L := below_step L hb16
     have ha := blk_below ha hb16
     refine hK.out _ _ ⟨kB L x39, kB L x37, kB L x40⟩ (fun hHeld => ?_)
     clear hK K
     refine norm_ (a' := ?_) ?_ ?_
     rotate_left
     · show Act.put _ (some 16) _ = _; simp only [Act.put, List.setIfInBounds_toArray, List.set, i64_w, i32_w]; rfl
     refine one_ (i := 17) (N := some 21) #[vT,vT,vT,vT,vT,vT,vT,vT,vT,vT,vT,vT,vT,vT,vT,vT,vT,vT,vF,vT,vF] rfl rfl (by kernel_rfl) (by decide) (fun K hK => ?_)
     refine goes_ Tryz.func38 (by kernel_rfl) rfl #[.slice At T ct] (by rfl) rfl rfl (by simp only [List.map_toArray, List.map_cons, List.map_nil]; rfl) ?_
     with_reducible refine (HCT.out _ L).mono ?_
     rintro e w10 ⟨A2, c2, rfl, hr21, hb21⟩
     refine ⟨_, rfl, ?_⟩
     have hrt := Kd.R_lower hr21 (below_size L)
     have hrr := Kd.R_below hrr hb21
     have L := below_step L hb21
     have ha := blk_below ha hb21
     refine hK.out _ _ ⟨kB L x39, kB L x37, kB L x40⟩ (fun hHeld => ?_)
     clear hK K
     refine norm_ (a' := ?_) ?_ ?_
     rotate_left
     · show Act.put _ (some 21) _ = _; simp only [Act.put, List.setIfInBounds_toArray, List.set, i64_w, i32_w]; rfl
     refine pure_ (i := 18) (N := some 22) (v := ?_) (a' := ?_) #[vT,vT,vT,vT,vT,vT,vT,vT,vT,vT,vT,vT,vT,vT,vT,vT,vT,vT,vT,vT,vF] rfl rfl (by kernel_rfl) (fun _ _ _ h => h) (Or.inl ⟨by rfl, ?_⟩) ?_ ?_
     rotate_left
     · intro w'; go_simp; with_reducible rfl
     rotate_left
     · simp only [Act.put, List.setIfInBounds_toArray, List.set, i64_w, i32_w]
       rfl
     exact norm_ (by simp only [putAll, Act.put, List.setIfInBounds_toArray, List.set]) (hCont ((A1, c1), (A2, c2), W0.heap.size) _ ⟨hrr, hrt, ha, L, hle⟩)
 rintro ⟨⟨A1, c1⟩, ⟨A2, c2⟩, pb⟩ w11 ⟨hrr, hrt, ha, L, hle⟩
 simp only at hrr hrt ha hle
 have hHeld : w11.cell? ⟨g, 39, none⟩ = some (.int .i64 er) ∧ w11.cell? ⟨g, 37, none⟩ = some (.int .i64 st) ∧ w11.cell? ⟨g, 40, none⟩ = some (.slice At T ct) := ⟨kB L x39, kB L x37, kB L x40⟩
 have z0 := blk_cell ha 0
 have z1 := blk_cell ha 1
 have z2 := blk_cell ha 2
 have z3 := blk_cell ha 3
 have z4 := blk_cell ha 4
 simp only [List.getElem?_toArray, List.getElem?_cons_zero, List.getElem?_cons_succ] at z0 z1 z2 z3 z4
 have f0_ := blk_frozen ha 0
 have f1_ := blk_frozen ha 1
 have f2_ := blk_frozen ha 2
 have f3_ := blk_frozen ha 3
 have f4_ := blk_frozen ha 4
 refine norm_ (a' := ?_) ?_ ?_
 rotate_left
 · simp only [putAll, Act.put, List.setIfInBounds_toArray, List.set]
   rfl
 refine one_ (i := 20) (N := none) #[vT,vT,vT,vT,vT,vT,vT,vT,vT,vT,vT,vT,vT,vT,vT,vT,vT,vT,vT,vT,vT] rfl rfl (by kernel_rfl) (by decide) (fun K hK => ?_)
 refine skip_ (w1 := ?_) (by rfl) rfl ?_ ?_
 rotate_left
 · go_simp
   rfl
 refine hK.out _ _ ⟨kS5 (HGP.out _ hle) hHeld.1, kS5 (HGP.out _ hle) hHeld.2.1, kS5 (HGP.out _ hle) hHeld.2.2⟩ (fun hHeld => ?_)
 clear hK K
 refine done_ (by kernel_rfl) ?_
 change Exit.then _ _ _ _ (put5 w11 pb (.int .i64 er) (.int .i64 0) (.int .i64 st) (.slice A1 32 c1) (.slice A2 T c2))
 have y39 : (put5 w11 pb (.int .i64 er) (.int .i64 0) (.int .i64 st) (.slice A1 32 c1) (.slice A2 T c2)).cell? ⟨g, 39, none⟩ = some (.int .i64 er) := by unfold put5; exact hHeld.1
 have HA := Aside0.mk (put5_block ha (.int .i64 er) (.int .i64 0) (.int .i64 st) (.slice A1 32 c1) (.slice A2 T c2))
 have HR := Aside0.mk (R_put5 hrr ha (by decide) (.int .i64 er) (.int .i64 0) (.int .i64 st) (.slice A1 32 c1) (.slice A2 T c2))
 have HT := Aside0.mk (R_put5 hrt ha (by decide) (.int .i64 er) (.int .i64 0) (.int .i64 st) (.slice A1 32 c1) (.slice A2 T c2))
 have HLW := Aside0.mk (put5_below (.int .i64 er) (.int .i64 0) (.int .i64 st) (.slice A1 32 c1) (.slice A2 T c2) L hle)
 have hlt : w.heap.size < pb := Nat.lt_of_lt_of_le HSZ.out hle
 have HOW2 := Aside0.mk ((put5_far (W := w11) (.int .i64 er) (.int .i64 0) (.int .i64 st) (.slice A1 32 c1) (.slice A2 T c2) (Nat.ne_of_lt hlt)).trans (blk_below HOW.out L))
 have HNE := Aside0.mk hlt
 clear hHeld ha hrr hrt hlt z0 z1 z2 z3 z4 f0_ f1_ f2_ f3_ f4_ x39 x37 x40 HCR HCT HCC HGP L HOW
 generalize put5 w11 pb (.int .i64 er) (.int .i64 0) (.int .i64 st) (.slice A1 32 c1) (.slice A2 T c2) = W12 at *
 by_cases he : er = 0
 · subst he
   have HE := HAT.out.1 rfl
   clear HAT
   subst HE
   have o0_ := blk_cell HOW2.out 0
   have o1_ := blk_cell HOW2.out 1
   have o2_ := blk_cell HOW2.out 2
   have o3_ := blk_cell HOW2.out 3
   have o4_ := blk_cell HOW2.out 4
   have of0_ := blk_frozen HOW2.out 0
   have of1_ := blk_frozen HOW2.out 1
   have of2_ := blk_frozen HOW2.out 2
   have of3_ := blk_frozen HOW2.out 3
   have of4_ := blk_frozen HOW2.out 4
   have a0_ := blk_cell HA.out 0
   have a1_ := blk_cell HA.out 1
   have a2_ := blk_cell HA.out 2
   have a3_ := blk_cell HA.out 3
   have a4_ := blk_cell HA.out 4
   have af1_ := blk_frozen HA.out 1
   simp only [List.getElem?_toArray, List.getElem?_cons_zero, List.getElem?_cons_succ] at o0_ o1_ o2_ o3_ o4_ a0_ a1_ a2_ a3_ a4_
   go_wp2_with fail
   have hp := put5_block HOW2.out (.int .i64 0) (.int .i64 0) (.int .i64 st) (.slice A1 32 c1) (.slice A2 T c2)
   have hq1 := Kd.R_lower (R_put5 HR.out HOW2.out (by decide) (.int .i64 0) (.int .i64 0) (.int .i64 st) (.slice A1 32 c1) (.slice A2 T c2)) HB.out.size
   have hq2 := Kd.R_lower (R_put5 HT.out HOW2.out (by decide) (.int .i64 0) (.int .i64 0) (.int .i64 st) (.slice A1 32 c1) (.slice A2 T c2)) HB.out.size
   have hq3 := put5_below (.int .i64 0) (.int .i64 0) (.int .i64 st) (.slice A1 32 c1) (.slice A2 T c2) (below_step HB.out HLW.out) (Nat.le_refl w.heap.size)
   unfold put5 at hp hq1 hq2 hq3
   refine bodyPost_ret (results_c (fn := Tryz.f21) (p := 2) (ty := 31) rfl _ _ w.heap.size 31 #[.int .i64 0, .int .i64 0, .int .i64 st, .slice A1 32 c1, .slice A2 T c2] (0, 0) _ rfl hp Tryz.underlying31 rfl (by kernel_rfl)) rfl ?_
   exact ⟨_, _, rfl, hq1, hq2, hq3⟩
 · have q1 : (er != 0) = true := bne_iff_ne.2 he
   have q2 : (er == 0) = false := beq_eq_false_iff_ne.2 he
   have HE := (HAT.out.2 he).symm
   clear HAT he
   subst HE
   go_wp2_with fail
   refine (HPL.out _ HLW.out).mono ?_
   rintro e w13 ⟨rfl, hw13⟩
   subst hw13
   have HA2 := Aside0.mk (blk_put (cs' := #[.int .i64 er, .int .i64 pl, .int .i64 st, (.slice A1 32 c1), (.slice A2 T c2)]) HA.out 1 (.int .i64 pl) rfl)
   have HR2 := Aside0.mk (Kd.R_set HR.out HA.out (by decide) 1 (.int .i64 pl))
   have HT2 := Aside0.mk (Kd.R_set HT.out HA.out (by decide) 1 (.int .i64 pl))
   have HLW2 := Aside0.mk (HLW.out.setCell (p := ⟨pb, 1, none⟩) hle (.int .i64 pl))
   have HOW3 := Aside0.mk ((Below.heap_setCell w13 ⟨pb, 1, none⟩ (.int .i64 pl) w.heap.size (Nat.ne_of_lt HNE.out)).trans HOW2.out)
   have o0_ := blk_cell HOW3.out 0
   have o1_ := blk_cell HOW3.out 1
   have o2_ := blk_cell HOW3.out 2
   have o3_ := blk_cell HOW3.out 3
   have o4_ := blk_cell HOW3.out 4
   have of0_ := blk_frozen HOW3.out 0
   have of1_ := blk_frozen HOW3.out 1
   have of2_ := blk_frozen HOW3.out 2
   have of3_ := blk_frozen HOW3.out 3
   have of4_ := blk_frozen HOW3.out 4
   have a0_ := blk_cell HA.out 0
   have a1_ := blk_cell HA.out 1
   have a2_ := blk_cell HA.out 2
   have a3_ := blk_cell HA.out 3
   have a4_ := blk_cell HA.out 4
   have af1_ := blk_frozen HA.out 1
   simp only [List.getElem?_toArray, List.getElem?_cons_zero, List.getElem?_cons_succ] at o0_ o1_ o2_ o3_ o4_ a0_ a1_ a2_ a3_ a4_
   go_wp2_with fail
   have hp := put5_block HOW3.out (.int .i64 er) (.int .i64 pl) (.int .i64 st) (.slice A1 32 c1) (.slice A2 T c2)
   have hq1 := Kd.R_lower (R_put5 HR2.out HOW3.out (by decide) (.int .i64 er) (.int .i64 pl) (.int .i64 st) (.slice A1 32 c1) (.slice A2 T c2)) HB.out.size
   have hq2 := Kd.R_lower (R_put5 HT2.out HOW3.out (by decide) (.int .i64 er) (.int .i64 pl) (.int .i64 st) (.slice A1 32 c1) (.slice A2 T c2)) HB.out.size
   have hq3 := put5_below (.int .i64 er) (.int .i64 pl) (.int .i64 st) (.slice A1 32 c1) (.slice A2 T c2) (below_step HB.out HLW2.out) (Nat.le_refl w.heap.size)
   unfold put5 at hp hq1 hq2 hq3
   refine bodyPost_ret (results_c (fn := Tryz.f21) (p := 2) (ty := 31) rfl _ _ w.heap.size 31 #[.int .i64 er, .int .i64 pl, .int .i64 st, .slice A1 32 c1, .slice A2 T c2] (0, 0) _ rfl hp Tryz.underlying31 rfl (by kernel_rfl)) rfl ?_
   exact ⟨_, _, rfl, hq1, hq2, hq3⟩
end Go.Proofs.YtcgkgaibomcheaaGreat.EOut
end
section
namespace Go.Proofs.YtcgkgaibomcheaaGreat.ERun
open Go.RowKit Bits Mac Mb Rd RDec EM EOut NewM NewE Go.Proofs.YtcgkgaibomcheaaGreat.Pure Goes PRvemuRuns YtcgkgaibomcheaaGreatW.PrintWords YtcgkgaibomcheaaGreatW.PrintLast YtcgkgaibomcheaaGreatW.PrintMore
set_option maxRecDepth 20000 in
set_option maxHeartbeats 1000000 in
theorem runs (cA dA rA sA : Option Addr) (cc dc rc sc : Nat) (lc ld ls lr : List Int) (fr fu : Int) (w : World)
 (hc : (Kd.int .u8).C w cA lc.length lc) (hlc : lc.length ≤ 140737488355328) (hd : (Kd.int .u8).C w dA ld.length ld) (hr : (Kd.int .u64).C w rA lr.length lr) (hs : (Kd.int .u8).C w sA ls.length ls) (hbc : isBytes lc) (hbd : isBytes ld) (hbs : isBytes ls) (hwr : isWords lr) (hfu : fu ≤ 1000000) :
 Calls Tryz.prog 13 #[.agg #[.slice cA lc.length cc, .slice dA ld.length dc, .slice rA lr.length rc, .slice sA ls.length sc, .int .i64 fr, .int .i64 fu]] w fun e w' => ∃ m vr vt, m = runM (newM lc ld lr ls fr fu) ∧ e = .returned (.agg #[.int .i64 m.err, .int .i64 (atOf m), .int .i64 m.steps, vr, vt]) ∧ Kd.R (Kd.int .u64) 52 w' w.heap.size (fun _ => True) vr (regsOf m) ∧ Kd.R k54 54 w' w.heap.size (fun _ => True) vt m.tr ∧ Below w.heap.size w w' := by
 have HNW := Aside0.mk (show ∀ W, Below w.heap.size w W → Calls Tryz.prog 19 #[.agg #[.slice cA lc.length cc, .slice dA ld.length dc, .slice rA lr.length rc, .slice sA ls.length sc, .int .i64 fr, .int .i64 fu]] W fun e w' => ∃ g gm c d f, e = .returned (.pointer (some ⟨g, 0, none⟩)) ∧ Out W.heap.size w' g gm c d f (newM lc ld lr ls fr fu) ∧ Below W.heap.size W w' from fun W hb => ENew.news cA dA rA sA cc dc rc sc lc ld ls lr fr fu W (Kd.C_below hc hb) hlc (Kd.C_below hd hb) (Kd.C_below hr hb) (Kd.C_below hs hb) hbd hbs hwr)
 have HBC := Aside0.mk hbc
 have HLC := Aside0.mk hlc
 have HFU := Aside0.mk hfu
 clear hc hlc hd hr hs hbc hbd hbs hwr hfu
 obtain ⟨m0, hm0⟩ : ∃ m0, newM lc ld lr ls fr fu = m0 := ⟨_, rfl⟩
 have HI := Aside0.mk (inv_new lc ld lr ls fr fu)
 have HMC := Aside0.mk (new_code lc ld lr ls fr fu)
 have HMS := Aside0.mk (new_steps lc ld lr ls fr fu)
 have HMF := Aside0.mk (new_fuel lc ld lr ls fr fu)
 rw [hm0] at HI HMC HMS HMF HNW ⊢
 clear hm0
 have hA := blk_below (blk_new w (.cells #[.slice cA lc.length cc, .slice dA ld.length dc, .slice rA lr.length rc, .slice sA ls.length sc, .int .i64 fr, .int .i64 fu] 25)) (below_alloc (Below.refl _ _) (.cells #[.int .i64 0, .int .i64 0, .int .i64 0, .slice none 0 0, .slice none 0 0] 31))
 have z0 : ((w.alloc (.cells #[.slice cA lc.length cc, .slice dA ld.length dc, .slice rA lr.length rc, .slice sA ls.length sc, .int .i64 fr, .int .i64 fu] 25)).alloc (.cells #[.int .i64 0, .int .i64 0, .int .i64 0, .slice none 0 0, .slice none 0 0] 31)).cell? ⟨w.heap.size, 0, none⟩ = some (.slice cA lc.length cc) := (blk_cell hA 0).trans (by simp)
 have z1 : ((w.alloc (.cells #[.slice cA lc.length cc, .slice dA ld.length dc, .slice rA lr.length rc, .slice sA ls.length sc, .int .i64 fr, .int .i64 fu] 25)).alloc (.cells #[.int .i64 0, .int .i64 0, .int .i64 0, .slice none 0 0, .slice none 0 0] 31)).cell? ⟨w.heap.size, 1, none⟩ = some (.slice dA ld.length dc) := (blk_cell hA 1).trans (by simp)
 have z2 : ((w.alloc (.cells #[.slice cA lc.length cc, .slice dA ld.length dc, .slice rA lr.length rc, .slice sA ls.length sc, .int .i64 fr, .int .i64 fu] 25)).alloc (.cells #[.int .i64 0, .int .i64 0, .int .i64 0, .slice none 0 0, .slice none 0 0] 31)).cell? ⟨w.heap.size, 2, none⟩ = some (.slice rA lr.length rc) := (blk_cell hA 2).trans (by simp)
 have z3 : ((w.alloc (.cells #[.slice cA lc.length cc, .slice dA ld.length dc, .slice rA lr.length rc, .slice sA ls.length sc, .int .i64 fr, .int .i64 fu] 25)).alloc (.cells #[.int .i64 0, .int .i64 0, .int .i64 0, .slice none 0 0, .slice none 0 0] 31)).cell? ⟨w.heap.size, 3, none⟩ = some (.slice sA ls.length sc) := (blk_cell hA 3).trans (by simp)
 have z4 : ((w.alloc (.cells #[.slice cA lc.length cc, .slice dA ld.length dc, .slice rA lr.length rc, .slice sA ls.length sc, .int .i64 fr, .int .i64 fu] 25)).alloc (.cells #[.int .i64 0, .int .i64 0, .int .i64 0, .slice none 0 0, .slice none 0 0] 31)).cell? ⟨w.heap.size, 4, none⟩ = some (.int .i64 fr) := (blk_cell hA 4).trans (by simp)
 have z5 : ((w.alloc (.cells #[.slice cA lc.length cc, .slice dA ld.length dc, .slice rA lr.length rc, .slice sA ls.length sc, .int .i64 fr, .int .i64 fu] 25)).alloc (.cells #[.int .i64 0, .int .i64 0, .int .i64 0, .slice none 0 0, .slice none 0 0] 31)).cell? ⟨w.heap.size, 5, none⟩ = some (.int .i64 fu) := (blk_cell hA 5).trans (by simp)
 have HB2 := Aside0.mk (show Below w.heap.size w ((w.alloc (.cells #[.slice cA lc.length cc, .slice dA ld.length dc, .slice rA lr.length rc, .slice sA ls.length sc, .int .i64 fr, .int .i64 fu] 25)).alloc (.cells #[.int .i64 0, .int .i64 0, .int .i64 0, .slice none 0 0, .slice none 0 0] 31)) from below_alloc (below_alloc (Below.refl _ _) _) _)
 have HRES := Aside0.mk (show (((w.alloc (.cells #[.slice cA lc.length cc, .slice dA ld.length dc, .slice rA lr.length rc, .slice sA ls.length sc, .int .i64 fr, .int .i64 fu] 25)).alloc (.cells #[.int .i64 0, .int .i64 0, .int .i64 0, .slice none 0 0, .slice none 0 0] 31))).heap[w.heap.size + 1]? = some (.cells #[.int .i64 0, .int .i64 0, .int .i64 0, .slice none 0 0, .slice none 0 0] 31 (0, 0)) from by
  have h := blk_new (w.alloc (.cells #[.slice cA lc.length cc, .slice dA ld.length dc, .slice rA lr.length rc, .slice sA ls.length sc, .int .i64 fr, .int .i64 fu] 25)) (.cells #[.int .i64 0, .int .i64 0, .int .i64 0, .slice none 0 0, .slice none 0 0] 31)
  rw [World.size_alloc] at h
  exact h)
 clear hA
 go_enter Tryz.func13, Tryz.ntmps13
 go_wp2_with fail
 refine (HNW.out _ HB2.out).mono ?_
 rintro e W3 ⟨g, gm, c, d, f, rfl, hO, hb3⟩
 have HSZ := Aside0.mk (show w.heap.size + 1 < (((w.alloc (.cells #[.slice cA lc.length cc, .slice dA ld.length dc, .slice rA lr.length rc, .slice sA ls.length sc, .int .i64 fr, .int .i64 fu] 25)).alloc (.cells #[.int .i64 0, .int .i64 0, .int .i64 0, .slice none 0 0, .slice none 0 0] 31))).heap.size from by rw [World.size_alloc, World.size_alloc]; omega)
 have HG3 := Aside0.mk (goE_new hO hb3.size)
 have HB3 := Aside0.mk hb3
 clear hO hb3 z0 z1 z2 z3 z4 z5 HNW
 generalize ((w.alloc (.cells #[.slice cA lc.length cc, .slice dA ld.length dc, .slice rA lr.length rc, .slice sA ls.length sc, .int .i64 fr, .int .i64 fu] 25)).alloc (.cells #[.int .i64 0, .int .i64 0, .int .i64 0, .slice none 0 0, .slice none 0 0] 31)) = W2 at *
 go_wp2_with fail
 have HN := Aside0.mk (it_ends m0 HMS.out)
 have HINV := Aside0.mk (fun k => inv_it HI.out k)
 have HBND := Aside0.mk (show ∀ k, 0 ≤ (it k m0).steps ∧ (it k m0).steps ≤ 1000000 ∧ (it k m0).tr.length ≤ 1000000000 ∧ (it k m0).code = lc from fun k => by
  have h := HINV.out k
  have h1 := h.steps
  have h2 := h.max
  have h3 := h.tr
  have h4 := h.fuel
  rw [HMF.out] at h4
  have h5 := HFU.out
  exact ⟨h1, by omega, by omega, h.code.trans HMC.out⟩)
 go_loopg [] (m0.fuel.toNat + 1) (fun gk W => ∃ (i : Nat) (t : Value), i + gk = m0.fuel.toNat + 1 ∧ Aside0 (GoE W2.heap.size W3.heap.size g gm c d f t W (it i m0)) ∧ Aside0 (Below W2.heap.size W2 W))
 case atStart => exact ⟨0, .slice none 0 0, by omega, HG3, HB3⟩
 case round =>
  clear HG3 HB3
  obtain ⟨i, t, hi, HG, HB⟩ := hrel
  obtain ⟨b1, b2, b3, b4⟩ := HBND.out i
  have HST := Aside0.mk (EStep.step_eq HG.out.me HG.out.code (by rw [b4]; exact HBC.out) (by rw [b4]; have := HLC.out; omega) b3 (by omega) (by omega))
  have HI2 := Aside0.mk hi
  clear b1 b2 b3 b4 hi
  go_wp2_with fail
  refine HST.out.mono ?_
  rintro e W4 ⟨rfl, hl⟩
  obtain ⟨t4, hg4⟩ := HG.out.step hl
  have HB4 := Aside0.mk (below_wr HB.out HB.out.size hl.choose_spec.2.1 (fun k _ hk => (HG.out.owned k hk).2))
  have HG4 := Aside0.mk (show GoE W2.heap.size W3.heap.size g gm c d f t4 W4 (it (i + 1) m0) from hg4)
  clear hl hg4 HST HG HB
  have hsd : (stepM (it i m0)).done = (it (i + 1) m0).done := rfl
  rw [hsd]
  clear hsd
  by_cases hd : (it (i + 1) m0).done = true
  · have HM := Aside0.mk (runM_of m0 HMS.out hd)
    rw [hd]
    obtain ⟨b1, b2, b3, b4⟩ := HBND.out (i + 1)
    have HOU := Aside0.mk (EOut.outcome g (it (i + 1) m0) c d f t4 (.map (some gm)) W4 HG4.out.me.mb HG4.out.me.tr b3)
    clear hd b1 b2 b3 b4
    have HR4 := Aside0.mk (blk_below HRES.out HB4.out)
    rw [← HM.out] at HOU
    have hM := HM.out
    clear HG4 HINV HBND HN HMS HMC HMF HI HI2 HM
    go_wp2_with fail
    refine HOU.out.mono ?_
    rintro e W5 ⟨vr, vt, rfl, hr5, ht5, hb5⟩
    obtain ⟨Ar, cr, ear⟩ := Kd.R_slice hr5
    obtain ⟨At, ct, eat⟩ := Kd.R_slice ht5
    rw [regs_len] at ear
    subst ear
    subst eat
    have HR5 := Aside0.mk (blk_below HR4.out hb5)
    have HB5 := Aside0.mk (below_step HB2.out (below_step HB4.out hb5))
    have hle : w.heap.size ≤ W4.heap.size := (below_step HB2.out HB4.out).size
    have HRR := Aside0.mk (Kd.R_lower hr5 hle)
    have HRT := Aside0.mk (Kd.R_lower ht5 hle)
    clear hr5 ht5 hb5 hle HOU HR4 hM
    have o0_ := blk_cell HR5.out 0
    have o1_ := blk_cell HR5.out 1
    have o2_ := blk_cell HR5.out 2
    have o3_ := blk_cell HR5.out 3
    have o4_ := blk_cell HR5.out 4
    have of0_ := blk_frozen HR5.out 0
    have of1_ := blk_frozen HR5.out 1
    have of2_ := blk_frozen HR5.out 2
    have of3_ := blk_frozen HR5.out 3
    have of4_ := blk_frozen HR5.out 4
    simp only [List.getElem?_toArray, List.getElem?_cons_zero, List.getElem?_cons_succ] at o0_ o1_ o2_ o3_ o4_
    obtain ⟨M, hM⟩ : ∃ M, runM m0 = M := ⟨_, rfl⟩
    rw [hM] at HRR HRT ⊢
    have HMM := Aside0.mk hM
    clear hM
    generalize M.tr.length = nt at *
    go_wp2_with fail
    have hp := put5_block HR5.out (.int .i64 M.err) (.int .i64 (atOf M)) (.int .i64 M.steps) (.slice Ar 32 cr) (.slice At nt ct)
    have hq1 := R_put5 HRR.out HR5.out (by decide) (.int .i64 M.err) (.int .i64 (atOf M)) (.int .i64 M.steps) (.slice Ar 32 cr) (.slice At nt ct)
    have hq2 := R_put5 HRT.out HR5.out (by decide) (.int .i64 M.err) (.int .i64 (atOf M)) (.int .i64 M.steps) (.slice Ar 32 cr) (.slice At nt ct)
    have hq3 := put5_below (.int .i64 M.err) (.int .i64 (atOf M)) (.int .i64 M.steps) (.slice Ar 32 cr) (.slice At nt ct) HB5.out (Nat.le_succ w.heap.size)
    unfold put5 at hp hq1 hq2 hq3
    refine bodyPost_ret (results_c (fn := Tryz.f13) (p := 2) (ty := 31) rfl _ _ (w.heap.size + 1) 31 #[.int .i64 M.err, .int .i64 (atOf M), .int .i64 M.steps, .slice Ar 32 cr, .slice At nt ct] (0, 0) _ rfl hp Tryz.underlying31 rfl (by kernel_rfl)) rfl ?_
    exact ⟨M, _, _, HMM.out.symm, rfl, hq1, hq2, hq3⟩
  · have hd2 : (it (i + 1) m0).done = false := by cases hq : (it (i + 1) m0).done with
     | true => exact absurd hq hd
     | false => rfl
    have hgk : gk ≠ 0 := fun e0 => by
     have h1 := HI2.out
     have h2 := it_done m0 HN.out (i + 1) (by omega)
     rw [h2] at hd
     exact hd HN.out
    obtain ⟨k1, hk1⟩ : ∃ k1, gk = k1 + 1 := ⟨gk - 1, by omega⟩
    subst hk1
    rw [hd2]
    clear hd hd2 hgk HBND HINV HN
    go_wp2_with fail
    go_roundg k1
    case measure => omega
    case rel => exact ⟨i + 1, t4, by have := HI2.out; omega, HG4, HB4⟩
end Go.Proofs.YtcgkgaibomcheaaGreat.ERun
end
section
namespace Go.Proofs.YtcgkgaibomcheaaGreat.Head
open Go.RowKit Bits Mac Mb Rd RDec EM EOut NewM Go.Proofs.YtcgkgaibomcheaaGreat.Pure PRvemuRuns YtcgkgaibomcheaaGreatW.PrintWords YtcgkgaibomcheaaGreatW.PrintLast YtcgkgaibomcheaaGreatW.PrintMore
set_option maxRecDepth 20000 in
theorem insn_reps (W : World) (b : Nat) (ok : Nat → Prop) : Reps (k42.M W b ok) 5 HeadP.insns [.int .i64 2, .int .i64 10, .int .i64 0, .int .i64 0, .int .i64 5, .int .i64 34, .int .i64 0, .int .i64 1, .int .i64 0, .int .i64 0] := Reps.c5 (k42_mkM W b ok ⟨2, 10, 0, 0, 5⟩) (Reps.c5 (k42_mkM W b ok ⟨34, 0, 1, 0, 0⟩) (Reps.none _ _))
set_option maxRecDepth 20000 in
theorem head (w : World) : Calls Tryz.prog 10 #[] w fun e w' => e = .returned (.bool true) ∧ Below w.heap.size w w' := by
 go_enter Tryz.func10, Tryz.ntmps10
 go_wp2_with (first | ((with_reducible refine gate_dst (N := 8) rfl ?_); refine Kd.R_lit k42 (w0 := w) w.heap.size 42 ?hg (N := 8) ?hd (xs := HeadP.insns) (inner := [.int .i64 2, .int .i64 10, .int .i64 0, .int .i64 0, .int .i64 5, .int .i64 34, .int .i64 0, .int .i64 1, .int .i64 0, .int .i64 0]) (ok := fun _ => True) (okp := fun _ => True) ?hr ?hp (fun _ hk => hk) trivial (Below.refl _ _) (Nat.le_refl _) (by simp [HeadP.insns]) ?_; (case hd => rfl); (case hg => rfl); (case hr => first | (go_simp; done) | (go_simp; rfl)); (case hp => exact insn_reps _ _ _); intro v8 w8 ho8 hb8 hgx_ hnx_; clear hgx_ hnx_; have HO8 := Aside0.mk ho8; have HB8 := Aside0.mk hb8; obtain ⟨A8, c8, e8, hc8, hC8⟩ := Kd.R_reads ho8; subst e8; have HC8 := Aside0.mk hC8; have HL8 := Aside0.mk hc8; clear ho8 hb8 hc8 hC8))
 have hl2 : HeadP.insns.length = 2 := rfl
 refine (ravelinref15_Bytes.calls 200 A8 c8 HeadP.insns HeadP.code 0 0 w8 HC8.out HL8.out HeadP.bytes).mono ?_
 rintro e w9 ⟨v9, rfl, hr9, hb9⟩
 obtain ⟨A9, c9, e9, hc9, hC9⟩ := Kd.R_reads hr9
 subst e9
 have HB9 := Aside0.mk (below_step HB8.out hb9)
 have HRUN := Aside0.mk (ERun.runs A9 none none none c9 0 0 0 HeadP.code [] [] [] 0 9 w9 hC9 (by decide) (Kd.R_reads' (Kd.R_nil (Kd.int .u8) 5 w9 0 (fun _ => True))).2.2 (Kd.R_reads' (Kd.R_nil (Kd.int .u64) 52 w9 0 (fun _ => True))).2.2 (Kd.R_reads' (Kd.R_nil (Kd.int .u8) 5 w9 0 (fun _ => True))).2.2 (by intro x hx; revert x; decide) (fun x hx => by cases hx) (fun x hx => by cases hx) (fun x hx => by cases hx) (by decide))
 clear hr9 hb9 hc9 hC9 hl2 HC8 HL8 HO8
 go_wp2_with fail
 refine HRUN.out.mono ?_
 rintro e w10 ⟨m, vr, vt, hm, rfl, hr, ht, hb10⟩
 have hh := HeadP.run
 have hm' : m = runM HeadP.m0 := hm
 rw [← hm'] at hh
 obtain ⟨h1, h2, h3⟩ := hh
 have hat : atOf m = 0 := if_pos h1
 obtain ⟨gr, cr, ear, _, _, _⟩ := Kd.R_form hr (by rw [regs_len]; omega)
 obtain ⟨At, ct, eat⟩ := Kd.R_slice ht
 rw [regs_len] at ear
 subst ear eat
 obtain ⟨ad, e4, h4⟩ := Kd.at_int (Kd.R_reads' hr).2.2 10 (by omega) (by rw [regs_len]; omega)
 injection e4 with e4
 subst e4
 have h5 : rd (regsOf m) 10 = 5 := by
  have e : (regsOf m).getD 10 0 = U (m.x 10) := rfl
  show (regsOf m).getD 10 0 = 5
  rw [e, h3]
  rfl
 rw [h5] at h4
 have x10 : w10.cell? ⟨gr, 10, none⟩ = some (.int .u64 5) := h4
 rw [h1, h2, hat]
 have HB10 := Aside0.mk (below_step HB9.out hb10)
 generalize m.tr.length = nt at *
 have y10 := fun (o : Obj) => kB (below_alloc (Below.refl w10.heap.size w10) o) x10
 have HZ := Aside0.mk (fun (o : Obj) => below_alloc HB10.out o)
 clear hr ht hb10 hm hm' h1 h2 h3 hat h4 h5 HRUN
 go_wp2_with fail
 go_ret
 exact ⟨rfl, HZ.out _⟩
end Go.Proofs.YtcgkgaibomcheaaGreat.Head
end
