/- Joined texts: StepsL, RowRvemuSteps. Conditions: those of each theorem. -/
import Derived.Test.YtcgkgaibomcheaaGreatZC01
import Derived.Test.YtcgkgaibomcheaaGreatZT20
import Derived.Test.YtcgkgaibomcheaaGreatZT22
import Derived.Test.YtcgkgaibomcheaaGreatRows
import Derived.WalkKit
import Derived.ProofKit
import Derived.OpenShut
import Derived.ShutString
import Derived.ChangeOld
import Derived.Below
import Derived.SizedLaws
import Derived.Lib.SmallJoins
import Derived.Deep.Slices
import Derived.Deep.Fields
import Derived.ChangeSame
set_option linter.unusedVariables false
set_option linter.unusedSimpArgs false
section
namespace Go.Proofs.YtcgkgaibomcheaaGreat.StepsL
open Go.RowKit Bits Mac Mb Rd RDec EM EOut NewM Go.Proofs.YtcgkgaibomcheaaGreat.Pure Goes Fit FineP AccessL SameH StepsP Conf EndsL PRvemuRuns YtcgkgaibomcheaaGreatW.PrintWords YtcgkgaibomcheaaGreatW.PrintLast YtcgkgaibomcheaaGreatW.PrintMore
def mnI (x y : Int) : Int := if y < x then y else x
theorem min2_mn (k k' : IntKind) (x y : Int) : Builtin.min2 (.int k x) (.int k' y) = pure (.int k (mnI x y)) := min2_int k k' x y
attribute [local go_sem] min2_mn min_two
theorem mn_le {x : Int} : mnI x 60 ≤ 60 := by unfold mnI; split <;> omega
set_option maxRecDepth 20000 in
set_option maxHeartbeats 4000000 in
theorem walk (lA : Option Addr) (c0 : Nat) (l : List S42) (w : World) (hl : k42.C w lA l.length l) (hlc : l.length ≤ c0) (hl40 : l.length * 40 ≤ 140737488355328) (cA dA rA sA : Option Addr) (cc dc rc sc : Nat) (lc ld ls lr : List Int) (fr fu : Int) (h : EnvAt w cA dA rA sA cc dc rc sc lc ld ls lr)
 (hld : ld.length + 1 ≤ 140737488355328) (hls : ls.length + 1 ≤ 140737488355328) (hlr : (lr.length + 1) * 8 ≤ 140737488355328) :
 Calls Tryz.prog 5 #[.slice lA l.length c0, .agg #[.slice cA lc.length cc, .slice dA ld.length dc, .slice rA lr.length rc, .slice sA ls.length sc, .int .i64 fr, .int .i64 fu]] w fun e w' => e = .returned (.bool true) ∧ Below w.heap.size w w' := by
 have hbA := below_alloc (Below.refl w.heap.size w) (.cells #[.slice cA lc.length cc, .slice dA ld.length dc, .slice rA lr.length rc, .slice sA ls.length sc, .int .i64 fr, .int .i64 fu] 25)
 have HA := Aside0.mk (blk_new w (.cells #[.slice cA lc.length cc, .slice dA ld.length dc, .slice rA lr.length rc, .slice sA ls.length sc, .int .i64 fr, .int .i64 fu] 25))
 have hu42 := Tryz.underlying42
 have HE := Aside0.mk h
 have HB := Aside0.mk hbA
 have HL := Aside0.mk hl
 have HLC := Aside0.mk hlc
 have HL40 := Aside0.mk hl40
 have HLD := Aside0.mk hld
 have HLS := Aside0.mk hls
 have HLR := Aside0.mk hlr
 clear hld hls hlr h hbA hl hlc hl40
 go_enter Tryz.func5, Tryz.ntmps5
 go_wp2_with fail
 refine (Head.head _).mono ?_
 rintro e w1 ⟨rfl, hb1⟩
 have HA1 := Aside0.mk (blk_below HA.out hb1)
 have HB1 := Aside0.mk (below_step HB.out hb1)
 clear hb1 HA HB
 go_wp2_with fail
 go_loopw [6, 7] (fun v6 v7 W => ∃ (i : Nat) (Af : Option Addr) (n cf : Nat), v7 = .int .i64 (i : Int) ∧ i ≤ l.length ∧ v6 = .slice Af n cf ∧ Aside0 (Kd.R k42 42 W w1.heap.size (fun _ => True) (.slice Af n cf) ((l.take i).filter okV)) ∧ Aside0 (Below w1.heap.size w1 W)) (fun v6 v7 _ => l.length - (intOf v7).toNat)
 case atStart => exact ⟨0, none, 0, 0, rfl, by omega, rfl, ⟨Kd.R_nil _ _ _ _ _⟩, ⟨Below.refl _ _⟩⟩
 case round =>
  obtain ⟨i, Af, n, cf, rfl, hi, rfl, HRF, HBW⟩ := hrel
  by_cases hlt : i < l.length
  · have t1 : decide ((i : Int) < (l.length : Int)) = true := decide_eq_true (by omega)
    have u1 : ((i : Int) < (l.length : Int)) = True := eq_true (by omega)
    have u2 : (0 ≤ (i : Int)) = True := eq_true (by omega)
    have HI := Aside0.mk hlt
    have HBL := Aside0.mk (below_step HB1.out HBW.out)
    obtain ⟨ad, rfl, x0, x1, x2, x3, x4⟩ := at_T42 (Kd.C_below HL.out HBL.out) (i : Int) (by omega) (by omega)
    simp only [Int.toNat_natCast] at x0 x1 x2 x3 x4
    clear hlt
    go_wp2_with fail
    refine (ravelinref15_Encode.calls 100 _ _ _ _ _ _ _ _ (enc_all 100 (by omega) (rd_T42 l (i : Int)))).mono ?_
    rintro e w5 ⟨rfl, hb5⟩
    have HRF5 := Aside0.mk (Kd.R_below HRF.out hb5)
    have HBW5 := Aside0.mk (below_step HBW.out hb5)
    replace x0 := kB hb5 x0
    replace x1 := kB hb5 x1
    replace x2 := kB hb5 x2
    replace x3 := kB hb5 x3
    replace x4 := kB hb5 x4
    clear hb5 HRF HBW
    by_cases hok : okV (rd_T42 l (i : Int)) = true
    · have e0 := okV_eq hok
      have c5b0 : ((encV (rd_T42 l (i : Int))).2 == 0) = true := beq_iff_eq.mpr e0
      have HN := Aside0.mk (take_yes l i HI.out hok)
      have HLN := Aside0.mk (show ((l.take i).filter okV).length ≤ i from by
       have := List.length_filter_le okV (l.take i)
       rw [List.length_take] at this
       omega)
      clear e0 hok
      generalize encV (rd_T42 l (i : Int)) = ev at *
      generalize rd_T42 l (i : Int) = xv at *
      go_wp2_with (first | ((with_reducible refine gate_dst (N := 43) rfl ?_); refine Kd.R_lit k42 _ 42 ?hg (N := 43) ?hd (xs := [xv]) (inner := [.int .i64 xv.f0, .int .i64 xv.f1, .int .i64 xv.f2, .int .i64 xv.f3, .int .i64 xv.f4]) (ok := fun _ => True) (okp := fun _ => True) ?hr ?hp (fun _ hk => hk) trivial (Below.refl _ _) (Nat.le_refl _) (by simp) ?_; (case hd => rfl); (case hg => rfl); (case hr => first | (go_simp; done) | (go_simp; rfl)); (case hp => exact (Reps.snoc (Reps.none _ _) (k42_mkM _ _ _ xv) rfl)); intro v35 w6 ho6 hb6 hg6_ hn6_; clear hg6_ hn6_; have HF6 := Aside0.mk (Kd.R_elder' HRF5.out (Kd.R_base ho6) hb6); have HO6 := Aside0.mk (Kd.R_lower (Kd.R_new' ho6 (Kd.R_lt HRF5.out)) (below_size HBW5.out)); have HBW6 := Aside0.mk (below_step HBW5.out hb6); clear hb6 ho6 HRF5 HBW5; obtain ⟨Ao6, co6, eo6⟩ := Kd.R_slice HO6.out; subst eo6) | ((with_reducible refine gate_builtin (b := .append) (xs := #[.tmp 38, .tmp 43]) rfl ?_); at_builtin; refine Kd.R_append_rows k42 (w0 := w1) w1.heap.size rfl (.tmp 38) (.tmp 43) 36 42 (.agg #[.int .i64 0, .int .i64 0, .int .i64 0, .int .i64 0, .int .i64 0]) 40 rfl Tryz.underlying36 inf42 rfl (by decide) (by omega) _ ((l.take i).filter okV) [xv] _ _ _ (fun k_ => some k_ ≠ (.slice Ao6 ([xv] : List S42).length co6 : Value).ownBlock) (fun _ => False) rfl rfl ?aO ?aR (fun _ _ h => h) (fun _ h => h.elim) ?aF ?aB ?aS ?aL ?_; (case aR => exact (Kd.R_reads' HO6.out).2.2); (case aB => exact HBW6.out); (case aF => exact (fun k_ hk => Kd.fresh' (Kd.R_lt HO6.out) k_ hk)); (case aO => exact Kd.R_mono HF6.out (fun _ hk => hk.2)); (case aS => exact below_size HBW6.out); (case aL => have h1 := HLN.out; have h2 := HI.out; have h3 := HL40.out; simp only [List.length_singleton]; omega); intro v36 w7 ho7 hb7 hg7 hat7; rw [← HN.out] at ho7; have HO7 := Aside0.mk ho7; have HB7 := Aside0.mk hb7; clear ho7 hb7 hg7 hat7))
      obtain ⟨A7, c7, e7⟩ := Kd.R_slice HO7.out
      subst e7
      have hi3 := HI.out
      have hw : wrap64 ((i : Int) + 1) = ((i + 1 : Nat) : Int) := by
       have := HL40.out
       unfold wrap64
       omega
      rw [hw]
      exact ⟨⟨i + 1, A7, _, c7, rfl, by omega, rfl, ⟨Kd.R_mono HO7.out (fun _ _ => trivial)⟩, HB7⟩, by simp only [intOf, Int.toNat_natCast]; omega⟩
    · have hok' : okV (rd_T42 l (i : Int)) = false := by cases hq : okV (rd_T42 l (i : Int)) with
       | true => exact absurd hq hok
       | false => rfl
      have e0 : ((encV (rd_T42 l (i : Int))).2 == 0) = false := hok'
      have HN := Aside0.mk (take_no l i HI.out hok')
      clear hok hok'
      go_wp2
      have hi3 := HI.out
      have hw : wrap64 ((i : Int) + 1) = ((i + 1 : Nat) : Int) := by
       have := HL40.out
       unfold wrap64
       omega
      rw [hw]
      exact ⟨⟨i + 1, Af, n, cf, rfl, by omega, rfl, ⟨by rw [HN.out]; exact HRF5.out⟩, HBW5⟩, by simp only [intOf, Int.toNat_natCast]; omega⟩
  · obtain rfl : i = l.length := by omega
    have HRL := HRF.out
    rw [List.take_length] at HRL
    obtain ⟨Fl, hFl⟩ : ∃ Fl, Fl = l.filter okV := ⟨_, rfl⟩
    rw [← hFl] at HRL
    have hfo : ∀ x ∈ Fl, okV x = true := fun x hx => by rw [hFl] at hx; exact (List.mem_filter.1 hx).2
    have hfl : Fl.length ≤ l.length := by rw [hFl]; exact List.length_filter_le _ _
    have HR := Aside0.mk HRL
    clear HRL HRF hFl
    obtain ⟨A7, c7, e7⟩ := Kd.R_slice HR.out
    injection e7 with e7 e8 e9
    subst e7 e8 e9
    have HBL := Aside0.mk (below_step HB1.out HBW.out)
    have HA2 := Aside0.mk (blk_below HA1.out HBW.out)
    have z0 := blk_cell HA2.out 0
    have z1 := blk_cell HA2.out 1
    have z2 := blk_cell HA2.out 2
    have z3 := blk_cell HA2.out 3
    have z4 := blk_cell HA2.out 4
    have z5 := blk_cell HA2.out 5
    simp only [List.getElem?_toArray, List.getElem?_cons_zero, List.getElem?_cons_succ] at z0 z1 z2 z3 z4 z5
    clear HA2 HA1 hlt HBW
    go_wp2_with fail
    refine (Fit.fit cA dA rA sA cc dc rc sc _ _ _ _ fr fu _).mono ?_
    rintro e w8 ⟨rfl, hb8⟩
    have HB8 := Aside0.mk (below_step HBL.out hb8)
    have HR8 := Aside0.mk (Kd.R_below HR.out hb8)
    have HF := Aside0.mk (fitFu_le fu)
    generalize fitFr fr = fr2 at *
    generalize fitFu fu = fu2 at *
    clear hb8 z0 z1 z2 z3 z4 z5 HR HBL
    go_wp2_with fail
    refine (ravelinref15_Bytes.calls (Fl.length + 101) Af cf Fl _ _ _ _ (Kd.C_below (Kd.R_reads' HR8.out).2.2 (below_alloc (Below.refl _ _) _)) (Kd.R_reads' HR8.out).2.1 (bytes_eq Fl hfo (by have := HL40.out; omega))).mono ?_
    rintro e w9 ⟨v9, rfl, hr9, hb9⟩
    obtain ⟨A9, c9, e9⟩ := Kd.R_slice hr9
    subst e9
    have HB9 := Aside0.mk (below_step (below_alloc HB8.out _) hb9)
    have HE9 := Aside0.mk (blk_below (blk_new w8 (.cells #[.slice cA lc.length cc, .slice dA ld.length dc, .slice rA lr.length rc, .slice sA ls.length sc, .int .i64 fr2, .int .i64 fu2] 25)) hb9)
    have HR9 := Aside0.mk hr9
    clear hb9 hr9 HR8
    have z0 := blk_cell HE9.out 0
    have z1 := blk_cell HE9.out 1
    have z2 := blk_cell HE9.out 2
    have z3 := blk_cell HE9.out 3
    have z4 := blk_cell HE9.out 4
    have z5 := blk_cell HE9.out 5
    have f0 := blk_frozen HE9.out 0
    simp only [List.getElem?_toArray, List.getElem?_cons_zero, List.getElem?_cons_succ] at z0 z1 z2 z3 z4 z5
    have f5 := blk_frozen HE9.out 5
    go_wp2_with fail
    have hE1 := blk_put (cs' := #[.slice A9 (codeL Fl).length c9, .slice dA ld.length dc, .slice rA lr.length rc, .slice sA ls.length sc, .int .i64 fr2, .int .i64 fu2]) HE9.out 0 (.slice A9 (codeL Fl).length c9) rfl
    have HEP := Aside0.mk (blk_put (cs' := #[.slice A9 (codeL Fl).length c9, .slice dA ld.length dc, .slice rA lr.length rc, .slice sA ls.length sc, .int .i64 fr2, .int .i64 (mnI fu2 60)]) hE1 5 (.int .i64 (mnI fu2 60)) rfl)
    have HBP := Aside0.mk ((HB9.out.setCell (p := ⟨w8.heap.size, 0, none⟩) (below_size HB8.out) (.slice A9 (codeL Fl).length c9)).setCell (p := ⟨w8.heap.size, 5, none⟩) (below_size HB8.out) (.int .i64 (mnI fu2 60)))
    have HRP := Aside0.mk (Kd.R_set (Kd.R_set HR9.out HE9.out (by decide) 0 (.slice A9 (codeL Fl).length c9)) hE1 (by decide) 5 (.int .i64 (mnI fu2 60)))
    clear z0 z1 z2 z3 z4 z5 f0 f5 hE1 HE9 HB9 HR9
    have HF3 := Aside0.mk (show mnI fu2 60 ≤ 60 from mn_le)
    generalize mnI fu2 60 = fu3 at *
    generalize ((w9.setCell ⟨w8.heap.size, 0, none⟩ (.slice A9 (codeL Fl).length c9)).setCell ⟨w8.heap.size, 5, none⟩ (.int .i64 fu3)) = Wp at *
    generalize w8.heap.size = ge_ at *
    have eP := HE.out.below HBP.out
    have HCL := Aside0.mk (show (codeL Fl).length + 1 ≤ 140737488355328 from by rw [codeL_len]; have := HL40.out; omega)
    have HEA := Aside0.mk (show EnvAt Wp A9 dA rA sA c9 dc rc sc (codeL Fl) ld ls lr from ⟨(Kd.R_reads' HRP.out).2.2, (Kd.R_reads' HRP.out).2.1, by have := HCL.out; omega, eP.hd, eP.hdc, eP.hr, eP.hrc, eP.hs, eP.hsc, codeL_bytes Fl, eP.bd, eP.bs, eP.wr⟩)
    clear eP
    refine (Lent.lent A9 dA rA sA c9 dc rc sc (codeL Fl) ld ls lr fr2 fu3 Wp HEA.out HCL.out HLD.out HLS.out HLR.out).mono ?_
    rintro e wl ⟨Ac, Ad, Ar, As, kc, kd, kr, ks, b1, rfl, hRc, hRd, _, hb1, hRr, hRs, hbl⟩
    have HPL := Aside0.mk hbl
    have HEL := Aside0.mk (blk_below HEP.out hbl)
    have hbx := below_alloc (Below.refl wl.heap.size wl) (.cells #[.slice Ac (codeL Fl).length kc, .slice Ad ld.length kd, .slice Ar lr.length kr, .slice As ls.length ks, .int .i64 fr2, .int .i64 fu3] 25)
    have HPX := Aside0.mk (below_step hbl hbx)
    have HEX := Aside0.mk (blk_below HEL.out hbx)
    have HXX := Aside0.mk (blk_new wl (.cells #[.slice Ac (codeL Fl).length kc, .slice Ad ld.length kd, .slice Ar lr.length kr, .slice As ls.length ks, .int .i64 fr2, .int .i64 fu3] 25))
    have HPc := Aside0.mk (RunsL.C_pre (Kd.R_below hRc hbx))
    have HPd := Aside0.mk (RunsL.C_pre (Kd.R_below hRd hbx))
    have HPr := Aside0.mk (RunsL.C_pre (Kd.R_below hRr hbx))
    have HPs := Aside0.mk (RunsL.C_pre (Kd.R_below hRs hbx))
    obtain ⟨xc, rfl, xc0, xc1, hNc⟩ := num_of hRc (Nat.succ_pos _)
    obtain ⟨xd, rfl, xd0, xd1, hNd⟩ := num_of hRd (Nat.succ_pos _)
    have HNc := Aside0.mk (hNc.below hbx)
    have HNd := Aside0.mk (hNd.below hbx)
    have HXC := Aside0.mk (show Wp.heap.size ≤ xc ∧ xc < wl.heap.size from ⟨xc0, xc1⟩)
    have HXD := Aside0.mk (show Wp.heap.size ≤ xd ∧ xd < wl.heap.size from ⟨Nat.le_trans hb1 xd0, xd1⟩)
    clear hbl hbx hRc hRd hRr hRs hNc hNd xc0 xc1 xd0 xd1 hb1
    go_wp2_with fail
    have HSX := Aside0.mk (show wl.heap.size < (wl.alloc (.cells #[.slice (some ⟨xc, 0, none⟩) (codeL Fl).length kc, .slice (some ⟨xd, 0, none⟩) ld.length kd, .slice Ar lr.length kr, .slice As ls.length ks, .int .i64 fr2, .int .i64 fu3] 25)).heap.size from by rw [World.size_alloc]; omega)
    generalize (wl.alloc (.cells #[.slice (some ⟨xc, 0, none⟩) (codeL Fl).length kc, .slice (some ⟨xd, 0, none⟩) ld.length kd, .slice Ar lr.length kr, .slice As ls.length ks, .int .i64 fr2, .int .i64 fu3] 25)) = Wx at *
    generalize wl.heap.size = gx at *
    have HCL2 := Aside0.mk (show (codeL Fl).length ≤ 140737488355328 from by have := HCL.out; omega)
    refine (ENew.news (some ⟨xc, 0, none⟩) (some ⟨xd, 0, none⟩) Ar As kc kd kr ks (codeL Fl) ld ls lr fr2 fu3 Wx HPc.out.1 HCL2.out HPd.out.1 HPr.out.1 HPs.out.1 HEA.out.bd HEA.out.bs HEA.out.wr).mono ?_
    rintro e W3 ⟨g, gm, c, d, f, rfl, hO, hb3⟩
    have HP3 := Aside0.mk (below_step HPX.out hb3)
    have HE3 := Aside0.mk (blk_below HEX.out hb3)
    have HX3 := Aside0.mk (blk_below HXX.out hb3)
    have HNc3 := Aside0.mk (HNc.out.below hb3)
    have HNd3 := Aside0.mk (HNd.out.below hb3)
    have HGE := Aside0.mk (goE_new hO hb3.size)
    have z0 := blk_cell HE3.out 0
    have z1 := blk_cell HE3.out 1
    have z2 := blk_cell HE3.out 2
    have z3 := blk_cell HE3.out 3
    have z4 := blk_cell HE3.out 4
    have z5 := blk_cell HE3.out 5
    simp only [List.getElem?_toArray, List.getElem?_cons_zero, List.getElem?_cons_succ] at z0 z1 z2 z3 z4 z5
    clear hO hb3 HNc HNd HPc HPd HPr HPs HXX HEX HEL HPL HEP
    go_wp2_with fail
    have e3 := HEA.out.below HP3.out
    refine (RNew.news A9 dA rA sA c9 dc rc sc (codeL Fl) ld ls lr fr2 fu3 W3 e3.hd e3.hdc e3.hr e3.hs e3.hsc e3.bd e3.bs e3.wr).mono ?_
    rintro e W4 ⟨g2, d2, f2, rfl, hOR, hb4⟩
    obtain ⟨m0, hm0⟩ : ∃ m0, newM (codeL Fl) ld lr ls fr2 fu3 = m0 := ⟨_, rfl⟩
    have HI := Aside0.mk (inv_new (codeL Fl) ld lr ls fr2 fu3)
    have HMC := Aside0.mk (new_code (codeL Fl) ld lr ls fr2 fu3)
    have HMF := Aside0.mk (new_fuel (codeL Fl) ld lr ls fr2 fu3)
    rw [hm0] at HI HMC HMF HGE hOR
    clear hm0
    have HCA := Aside0.mk (show ∀ W', Below Wp.heap.size Wp W' → CodeAt W' (fun k => Wp.heap.size ≤ k) (.slice A9 (codeL Fl).length c9) (codeL Fl) from fun W' hb => ⟨A9, c9, rfl, HEA.out.hcc, Kd.C_below HEA.out.hc hb, fun ad ha hn hk => by
     subst ha
     have := Kd.C_lt HEA.out.hc hn (by decide)
     omega⟩)
    have hP4 := below_step HP3.out hb4
    have hSX := HSX.out
    have hPB : Wp.heap.size ≤ Wx.heap.size := HPX.out.size
    have HGR := Aside0.mk (goR_new hOR (by rw [HMC.out]; exact (HCA.out _ hP4).imp (fun k _ hk => Nat.le_trans HP3.out.size hk)) hb4.size)
    have HST := Aside0.mk (show StepsP.St Wp Wx.heap.size W3.heap.size g gm c d f (.slice none 0 0) g2 (.slice A9 (codeL Fl).length c9) d2 f2 (.slice none 0 0) W4 m0 from ⟨HGE.out.kept (Kept.of_below hb4 (fun _ => False)) (fun _ _ e => e.elim), HGR.out, fun k hk => by simp [Value.ownBlock] at hk, hP4, hPB⟩)
    have HX4 := Aside0.mk (blk_below HX3.out hb4)
    have HNc4 := Aside0.mk (HNc3.out.below hb4)
    have HNd4 := Aside0.mk (HNd3.out.below hb4)
    have HPB := Aside0.mk (show Wp.heap.size ≤ Wx.heap.size ∧ gx < Wx.heap.size from ⟨hPB, hSX⟩)
    have HCB := Aside0.mk (show ∀ W', Below Wp.heap.size Wp W' → CodeAt W' (fun k => Wp.heap.size ≤ k) (.slice A9 (codeL Fl).length c9) m0.code from fun W' hb => by rw [HMC.out]; exact HCA.out W' hb)
    clear e3 hOR hb4 hP4 hPB hSX HGE HGR HX3 HE3 HNc3 HNd3 z0 z1 z2 z3 z4 z5
    go_wp2_with fail
    go_loopw [14] (fun v14 W => ∃ i : Nat, v14 = .int .i64 (i : Int) ∧ i ≤ (codeL Fl).length ∧ Aside0 (StepsP.St Wp Wx.heap.size W3.heap.size g gm c d f (.slice none 0 0) g2 (.slice A9 (codeL Fl).length c9) d2 f2 (.slice none 0 0) W m0) ∧ Aside0 (W.heap[gx]? = some (.cells #[.slice (some ⟨xc, 0, none⟩) (codeL Fl).length kc, .slice (some ⟨xd, 0, none⟩) ld.length kd, .slice Ar lr.length kr, .slice As ls.length ks, .int .i64 fr2, .int .i64 fu3] 25 (0, 0))) ∧ Aside0 (NumB .u8 5 ((codeL Fl).length + 1) xc W) ∧ Aside0 (NumB .u8 5 (ld.length + 1) xd W)) (fun v14 _ => (codeL Fl).length - (intOf v14).toNat)
    case atStart => exact ⟨0, rfl, by omega, HST, HX4, HNc4, HNd4⟩
    case round =>
     clear HST HX4 HNc4 HNd4
     obtain ⟨i, rfl, hi, HST, HXB, HNc, HNd⟩ := hrel
     have x0 := blk_cell HXB.out 0
     simp only [List.getElem?_toArray, List.getElem?_cons_zero, List.getElem?_cons_succ] at x0
     by_cases hlt : i < (codeL Fl).length
     · have t1 : decide ((i : Int) < ((codeL Fl).length : Int)) = true := decide_eq_true (by omega)
       have u1 : ((i : Int) < ((codeL Fl).length : Int)) = True := eq_true (by omega)
       have u2 : (0 ≤ (i : Int)) = True := eq_true (by omega)
       obtain ⟨v, hv⟩ := HNc.out.cell (j := i) (by omega)
       have hz := HNc.out.frozen i
       have HI3 := Aside0.mk hlt
       clear hlt
       go_wp2_with fail
       have hi3 := HI3.out
       have hw : wrap64 ((i : Int) + 1) = ((i + 1 : Nat) : Int) := by
        have := HCL.out
        unfold wrap64
        omega
       rw [hw]
       exact ⟨⟨i + 1, rfl, by omega, ⟨HST.out.store HCB.out HXC.out.1 (by have := HXC.out.2; have := HPB.out.2; omega) i (.int .u8 0)⟩, ⟨blk_far HXB.out (p := ⟨xc, i, none⟩) (by have := HXC.out.2; show gx ≠ xc; omega) (.int .u8 0)⟩, ⟨HNc.out.put xc i _⟩, ⟨HNd.out.put xc i _⟩⟩, by simp only [intOf, Int.toNat_natCast]; omega⟩
     · have t1 : decide ((i : Int) < ((codeL Fl).length : Int)) = false := decide_eq_false (by omega)
       have u1 : ((i : Int) < ((codeL Fl).length : Int)) = False := eq_false (by omega)
       clear hlt
       go_wp2_with fail
       clear x0 t1 u1
       have HST1 := HST
       have HXB1 := HXB
       have HNc1 := HNc
       have HNd1 := HNd
       clear HST HXB HNc HNd
       go_loopw [15] (fun v15 W => ∃ i : Nat, v15 = .int .i64 (i : Int) ∧ i ≤ ld.length ∧ Aside0 (StepsP.St Wp Wx.heap.size W3.heap.size g gm c d f (.slice none 0 0) g2 (.slice A9 (codeL Fl).length c9) d2 f2 (.slice none 0 0) W m0) ∧ Aside0 (W.heap[gx]? = some (.cells #[.slice (some ⟨xc, 0, none⟩) (codeL Fl).length kc, .slice (some ⟨xd, 0, none⟩) ld.length kd, .slice Ar lr.length kr, .slice As ls.length ks, .int .i64 fr2, .int .i64 fu3] 25 (0, 0))) ∧ Aside0 (NumB .u8 5 ((codeL Fl).length + 1) xc W) ∧ Aside0 (NumB .u8 5 (ld.length + 1) xd W)) (fun v15 _ => ld.length - (intOf v15).toNat)
       case atStart => exact ⟨0, rfl, by omega, HST1, HXB1, HNc1, HNd1⟩
       case round =>
        clear HST1 HXB1 HNc1 HNd1 hi
        obtain ⟨i, rfl, hi, HST, HXB, HNc, HNd⟩ := hrel
        have x1 := blk_cell HXB.out 1
        simp only [List.getElem?_toArray, List.getElem?_cons_zero, List.getElem?_cons_succ] at x1
        by_cases hlt : i < ld.length
        · have t1 : decide ((i : Int) < (ld.length : Int)) = true := decide_eq_true (by omega)
          have u1 : ((i : Int) < (ld.length : Int)) = True := eq_true (by omega)
          have u2 : (0 ≤ (i : Int)) = True := eq_true (by omega)
          obtain ⟨v, hv⟩ := HNd.out.cell (j := i) (by omega)
          have hz := HNd.out.frozen i
          have HI3 := Aside0.mk hlt
          clear hlt
          go_wp2_with fail
          have hi3 := HI3.out
          have hw : wrap64 ((i : Int) + 1) = ((i + 1 : Nat) : Int) := by
           have := HLD.out
           unfold wrap64
           omega
          rw [hw]
          exact ⟨⟨i + 1, rfl, by omega, ⟨HST.out.store HCB.out HXD.out.1 (by have := HXD.out.2; have := HPB.out.2; omega) i _⟩, ⟨blk_far HXB.out (p := ⟨xd, i, none⟩) (by have := HXD.out.2; show gx ≠ xd; omega) _⟩, ⟨HNc.out.put xd i _⟩, ⟨HNd.out.put xd i _⟩⟩, by simp only [intOf, Int.toNat_natCast]; omega⟩
        · have t1 : decide ((i : Int) < (ld.length : Int)) = false := decide_eq_false (by omega)
          have u1 : ((i : Int) < (ld.length : Int)) = False := eq_false (by omega)
          clear hlt
          go_wp2_with fail
          have HST0 := HST
          clear HST HXB HNc HNd x1 t1 u1 hi HCL2 HLS HLR HSX HXC HXD
          have HBND := Aside0.mk (show ∀ k, 0 ≤ (it k m0).steps ∧ (it k m0).steps ≤ 1000000 ∧ (it k m0).tr.length ≤ 1000000 ∧ (it k m0).code = codeL Fl from fun k => by
           have h := inv_it HI.out k
           have h1 := h.steps
           have h2 := h.max
           have h3 := h.tr
           have h4 := h.fuel
           rw [HMF.out] at h4
           have h5 := HF3.out
           exact ⟨h1, by omega, by omega, h.code.trans HMC.out⟩)
          clear HI HMF HCB
          go_loopw [16] (fun v16 W => ∃ (i : Nat) (t f2 t2 : Value), v16 = .int .i64 (i : Int) ∧ i ≤ 64 ∧ Aside0 (StepsP.St Wp Wx.heap.size W3.heap.size g gm c d f t g2 (.slice A9 (codeL Fl).length c9) d2 f2 t2 W (it i m0))) (fun v16 _ => 64 - (intOf v16).toNat)
          case atStart => exact ⟨0, _, _, _, rfl, by omega, HST0⟩
          case round =>
           clear HST0
           obtain ⟨i, t, f2, t2, rfl, hi, HST⟩ := hrel
           generalize wr = Wi at *
           by_cases hlt : i < 64
           · have t1 : decide ((i : Int) < 64) = true := decide_eq_true (by omega)
             have u1 : ((i : Int) < 64) = True := eq_true (by omega)
             have HI6 := Aside0.mk hlt
             have HSM := Aside0.mk (show stepM (it i m0) = it (i + 1) m0 from rfl)
             obtain ⟨b1, b2, b3, b4⟩ := HBND.out i
             obtain ⟨M, hM⟩ : ∃ M, it i m0 = M := ⟨_, rfl⟩
             rw [hM] at HST HSM b1 b2 b3 b4
             have HBM := Aside0.mk (show 0 ≤ M.steps ∧ M.steps ≤ 1000000 ∧ M.tr.length ≤ 1000000 ∧ M.code = codeL Fl from ⟨b1, b2, b3, b4⟩)
             clear hM b1 b2 b3 b4 hlt
             obtain ⟨Tt, tct, rfl, htct, hTC⟩ := Kd.R_reads HST.out.r.mr.tr
             have HTC := Aside0.mk hTC
             have HOUT := Aside0.mk (EOut.outcome g M c d f t (.map (some gm)) Wi HST.out.e.me.mb HST.out.e.me.tr (by have := HBM.out.2.2.1; omega))
             clear hTC
             go_wp2_with fail
             refine HOUT.out.mono ?_
             rintro e W5 ⟨vr, vt, rfl, hr5, ht5, hb5⟩
             obtain ⟨Ro, ocr, ear⟩ := Kd.R_slice hr5
             obtain ⟨To, oct, eat⟩ := Kd.R_slice ht5
             subst ear eat
             have hbo := below_alloc (Below.refl W5.heap.size W5) (.cells #[.int .i64 M.err, .int .i64 (atOf M), .int .i64 M.steps, .slice Ro (regsOf M).length ocr, .slice To M.tr.length oct] 31)
             have HBO := Aside0.mk (below_step hb5 hbo)
             have HOO := Aside0.mk (blk_new W5 (.cells #[.int .i64 M.err, .int .i64 (atOf M), .int .i64 M.steps, .slice Ro (regsOf M).length ocr, .slice To M.tr.length oct] 31))
             have HRR := Aside0.mk (Kd.R_below hr5 hbo)
             have HRT := Aside0.mk (Kd.R_below ht5 hbo)
             have HTC5 := Aside0.mk (Kd.C_below HTC.out HBO.out)
             have HR5 := Aside0.mk hr5
             have HT5 := Aside0.mk ht5
             have HLE := Aside0.mk hb5.size
             have HSO := Aside0.mk (show W5.heap.size < (W5.alloc (.cells #[.int .i64 M.err, .int .i64 (atOf M), .int .i64 M.steps, .slice Ro (regsOf M).length ocr, .slice To M.tr.length oct] 31)).heap.size from by rw [World.size_alloc]; omega)
             have HOB := Aside0.mk hbo
             clear hr5 ht5 hb5 hbo HOUT HTC
             go_wp2_with fail
             generalize W5.alloc (.cells #[.int .i64 M.err, .int .i64 (atOf M), .int .i64 M.steps, .slice Ro (regsOf M).length ocr, .slice To M.tr.length oct] 31) = Wo at *
             have y0 := blk_cell HOO.out 0
             have y1 := blk_cell HOO.out 1
             have y2 := blk_cell HOO.out 2
             have y3 := blk_cell HOO.out 3
             have y4 := blk_cell HOO.out 4
             simp only [List.getElem?_toArray, List.getElem?_cons_zero, List.getElem?_cons_succ] at y0 y1 y2 y3 y4
             have HSO5 := Aside0.mk (HST.out.below HBO.out)
             have HROUT := Aside0.mk (show ∀ W, Below Wo.heap.size Wo W → _ from fun W hb => ROut.outcome g2 M (.slice A9 (codeL Fl).length c9) d2 f2 Tt M.tr.length tct W (HSO5.out.below hb).r.mr.mb)
             have HSAME := Aside0.mk (show ∀ (Ro2 : Option Addr) (ocr2 : Nat) (W : World), Below Wo.heap.size Wo W → ((regsOf M).length = (regsOf M).length ∧ (regsOf M).length ≤ ocr2 ∧ (Kd.int .u64).C W Ro2 (regsOf M).length (regsOf M)) → Calls Tryz.prog 14 #[.agg #[.int .i64 M.err, .int .i64 (atOf M), .int .i64 M.steps, .slice Ro (regsOf M).length ocr, .slice To M.tr.length oct], .agg #[.int .i64 M.err, .int .i64 (atOf M), .int .i64 M.steps, .slice Ro2 (regsOf M).length ocr2, .slice Tt M.tr.length tct]] W fun e w' => e = .returned (.bool true) ∧ Below W.heap.size W w' from fun Ro2 ocr2 W hb h1 =>
              same_yes M.err (atOf M) M.steps Ro Ro2 To Tt ocr ocr2 oct tct (regsOf M) M.tr W (Kd.C_below (Kd.R_reads' HRR.out).2.2 hb) h1.2.2 (Kd.C_below (Kd.R_reads' HRT.out).2.2 hb) (Kd.C_below HTC5.out hb) (by rw [regs_len]; omega) HBM.out.2.2.1)
             have hu31 := Tryz.underlying31
             have hu25 := Tryz.underlying25
             obtain ⟨go, hgo⟩ : ∃ go, W5.heap.size = go := ⟨_, rfl⟩
             rw [hgo] at y0 y1 y2 y3 y4 HOO HSO ⊢
             have HGO := Aside0.mk hgo
             have hgr0 : 0 < (regsOf M).length := by rw [regs_len]; omega
             obtain ⟨gr, hRo, gr0, gr1, hN5⟩ := num_of HR5.out hgr0
             have HRo := Aside0.mk hRo
             have HN5 := Aside0.mk (hN5.below HOB.out)
             have HGR := Aside0.mk (show Wi.heap.size ≤ gr ∧ gr < go from ⟨gr0, by omega⟩)
             have HT6 := Aside0.mk (show 0 < M.tr.length → ∃ gt, To = some ⟨gt, 0, none⟩ ∧ Wi.heap.size ≤ gt ∧ gt < go ∧ CellB 54 (M.tr.length * 3) gt Wo from fun h => by
              obtain ⟨gt, q1, q2, q3, q4⟩ := ev_of HT5.out h
              exact ⟨gt, q1, q2, by omega, q4.below HOB.out⟩)
             clear hgo gr0 gr1 hN5 hgr0 hRo
             have L := below_drew1 (Below.refl Wo.heap.size Wo)
             refine start_ (n := 5) (S := fun w' => w'.cell? ⟨go, 0, none⟩ = some (.int .i64 M.err) ∧ w'.cell? ⟨go, 1, none⟩ = some (.int .i64 (atOf M)) ∧ w'.cell? ⟨go, 2, none⟩ = some (.int .i64 M.steps) ∧ w'.cell? ⟨go, 3, none⟩ = some (.slice Ro (regsOf M).length ocr) ∧ w'.cell? ⟨go, 4, none⟩ = some (.slice To M.tr.length oct)) (ds := []) #[vF,vF,vF,vF,vF] (by kernel_rfl) rfl rfl ⟨kB L y0, kB L y1, kB L y2, kB L y3, kB L y4⟩ (fun hHeld => ?_)
             refine pure_ (i := 1) (N := some 102) (v := ?_) (a' := ?_) #[vF,vT,vF,vF,vF] rfl rfl (by kernel_rfl) (fun _ _ _ h => h) (Or.inl ⟨by rfl, ?_⟩) ?_ ?_
             rotate_left
             · intro w'; go_simp; with_reducible rfl
             rotate_left
             · simp only [Act.put, List.setIfInBounds_toArray, List.set, i64_w, i32_w]
               rfl
             refine take_ (i := 0) (N := some 101) (v := ?_) (a' := ?_) #[vT,vT,vF,vF,vF] rfl rfl (by kernel_rfl) (fun _ _ _ h => h) (Or.inl ⟨by rfl, ?_⟩) hHeld ?_ ?_
             rotate_left
             · rintro w' ⟨s0, s1, s2, s3, s4⟩; go_simp; with_reducible rfl
             rotate_left
             · simp only [Act.put, List.setIfInBounds_toArray, List.set, i64_w, i32_w]
               rfl
             refine one_ (i := 2) (N := some 103) #[vT,vT,vT,vF,vF] rfl rfl (by kernel_rfl) (by decide) (fun K hK => ?_)
             refine goes_ Tryz.func22 (by kernel_rfl) rfl #[.pointer (some ⟨g2, 0, none⟩)] (by rfl) rfl rfl (by simp only [List.map_toArray, List.map_cons, List.map_nil]; rfl) ?_
             with_reducible refine (HROUT.out _ L).mono ?_
             rintro e w13 ⟨vr2, rfl, hr2, hb13⟩
             refine ⟨_, rfl, ?_⟩
             have L := below_step L hb13
             obtain ⟨Ro2, ocr2, ear2⟩ := Kd.R_slice hr2
             subst ear2
             have HVR2 := Aside0.mk (Kd.R_reads' hr2)
             clear hr2 hb13
             refine hK.out _ _ ⟨kB L y0, kB L y1, kB L y2, kB L y3, kB L y4⟩ (fun hHeld => ?_)
             clear hK K
             refine norm_ (a' := ?_) ?_ ?_
             rotate_left
             · show Act.put _ (some 103) _ = _; simp only [Act.put, List.setIfInBounds_toArray, List.set, i64_w, i32_w]; rfl
             refine one_ (i := 3) (N := some 104) #[vT,vT,vT,vT,vF] rfl rfl (by kernel_rfl) (by decide) (fun K hK => ?_)
             refine goes_ Tryz.func14 (by kernel_rfl) rfl #[.agg #[.int .i64 M.err, .int .i64 (atOf M), .int .i64 M.steps, .slice Ro (regsOf M).length ocr, .slice To M.tr.length oct], .agg #[.int .i64 M.err, .int .i64 (atOf M), .int .i64 M.steps, .slice Ro2 (regsOf M).length ocr2, .slice Tt M.tr.length tct]] (by rfl) rfl rfl (by simp only [List.map_toArray, List.map_cons, List.map_nil]; rfl) ?_
             with_reducible refine (HSAME.out Ro2 ocr2 _ L HVR2.out).mono ?_
             rintro e w14 ⟨rfl, hb14⟩
             refine ⟨_, rfl, ?_⟩
             have L := below_step L hb14
             refine hK.out _ _ ⟨kB L y0, kB L y1, kB L y2, kB L y3, kB L y4⟩ (fun hHeld => ?_)
             clear hK K
             refine norm_ (a' := ?_) ?_ ?_
             rotate_left
             · show Act.put _ (some 104) _ = _; simp only [Act.put, List.setIfInBounds_toArray, List.set, i64_w, i32_w]; rfl
             refine pure_ (i := 4) (N := some 18) (v := ?_) (a' := ?_) #[vT,vT,vT,vT,vT] rfl rfl (by kernel_rfl) (fun _ _ _ h => h) (Or.inl ⟨by rfl, ?_⟩) ?_ ?_
             rotate_left
             · intro w'; go_simp; with_reducible rfl
             rotate_left
             · simp only [Act.put, List.setIfInBounds_toArray, List.set, i64_w, i32_w]
               rfl
             refine done_ (by kernel_rfl) ?_
             have HO7 := Aside0.mk (blk_below HOO.out L)
             have HN7 := Aside0.mk (HN5.out.below L)
             have HT7 := Aside0.mk (show 0 < M.tr.length → ∃ gt, To = some ⟨gt, 0, none⟩ ∧ Wi.heap.size ≤ gt ∧ gt < go ∧ CellB 54 (M.tr.length * 3) gt _ from fun h => by
              obtain ⟨gt, q1, q2, q3, q4⟩ := HT6.out h
              exact ⟨gt, q1, q2, q3, q4.below L⟩)
             have HB7 := Aside0.mk (below_step HBO.out L)
             have HS7 := Aside0.mk (HST.out.below HB7.out)
             have hRo := HRo.out
             clear HRo
             clear hHeld L y0 y1 y2 y3 y4 HT6 HN5 HSO5 HROUT HSAME HRR HRT HTC5 HR5 HT5 HBO HOB HOO HSO
             subst hRo
             go_wp2_with fail
             refine (Ends.place_emu g _ M.pc _ HS7.out.e.me.mb rfl).mono ?_
             rintro e w8_ ⟨rfl, rfl⟩
             go_wp2_with fail
             refine (Ends.place_ref g2 _ M.pc _ HS7.out.r.mr.mb rfl).mono ?_
             rintro e w9_ ⟨rfl, rfl⟩
             go_wp2_with fail
             have HO8 := HO7
             have HN8 := HN7
             have HT8 := HT7
             have HB8_ := HB7
             clear HO7 HN7 HT7 HB7 HS7
             go_loopw [19] (fun v19 W => ∃ k : Nat, v19 = .int .i64 (k : Int) ∧ k ≤ (regsOf M).length ∧ Aside0 (W.heap[go]? = some (.cells #[.int .i64 M.err, .int .i64 (atOf M), .int .i64 M.steps, .slice (some ⟨gr, 0, none⟩) (regsOf M).length ocr, .slice To M.tr.length oct] 31 (0, 0))) ∧ Aside0 (NumB .u64 52 (regsOf M).length gr W) ∧ Aside0 (0 < M.tr.length → ∃ gt, To = some ⟨gt, 0, none⟩ ∧ Wi.heap.size ≤ gt ∧ gt < go ∧ CellB 54 (M.tr.length * 3) gt W) ∧ Aside0 (Below Wi.heap.size Wi W)) (fun v19 _ => (regsOf M).length - (intOf v19).toNat)
             case atStart => exact ⟨0, rfl, by omega, HO8, HN8, HT8, HB8_⟩
             case round =>
              clear HO8 HN8 HT8 HB8_
              obtain ⟨k, rfl, hk, HO7, HN7, HT7, HB7⟩ := hrel
              have y3 := blk_cell HO7.out 3
              simp only [List.getElem?_toArray, List.getElem?_cons_zero, List.getElem?_cons_succ] at y3
              by_cases hlt : k < (regsOf M).length
              · have t2_ : decide ((k : Int) < ((regsOf M).length : Int)) = true := decide_eq_true (by omega)
                have u2_ : ((k : Int) < ((regsOf M).length : Int)) = True := eq_true (by omega)
                have u3_ : (0 ≤ (k : Int)) = True := eq_true (by omega)
                obtain ⟨v, hv⟩ := HN7.out.cell (j := k) hlt
                have hz := HN7.out.frozen k
                have HK7 := Aside0.mk hlt
                clear hlt
                go_wp2_with fail
                have hk3 := HK7.out
                have hw : wrap64 ((k : Int) + 1) = ((k + 1 : Nat) : Int) := by
                 have := regs_len M
                 unfold wrap64
                 omega
                rw [hw]
                refine ⟨⟨k + 1, rfl, by omega, ⟨blk_far HO7.out (p := ⟨gr, k, none⟩) (by have := HGR.out.2; show go ≠ gr; omega) _⟩, ⟨HN7.out.put gr k _⟩, ⟨fun h => ?_⟩, ⟨HB7.out.setCell (p := ⟨gr, k, none⟩) HGR.out.1 _⟩⟩, by simp only [intOf, Int.toNat_natCast]; omega⟩
                obtain ⟨gt, q1, q2, q3, q4⟩ := HT7.out h
                exact ⟨gt, q1, q2, q3, q4.put gr k _⟩
              · have t2_ : decide ((k : Int) < ((regsOf M).length : Int)) = false := decide_eq_false (by omega)
                have u2_ : ((k : Int) < ((regsOf M).length : Int)) = False := eq_false (by omega)
                clear hlt
                go_wp2_with fail
                clear y3 t2_ u2_ hk
                have HO8 := HO7
                have HT8 := HT7
                have HB8_ := HB7
                clear HO7 HN7 HT7 HB7
                go_loopw [20] (fun v20 W => ∃ k : Nat, v20 = .int .i64 (k : Int) ∧ k ≤ M.tr.length ∧ Aside0 (W.heap[go]? = some (.cells #[.int .i64 M.err, .int .i64 (atOf M), .int .i64 M.steps, .slice (some ⟨gr, 0, none⟩) (regsOf M).length ocr, .slice To M.tr.length oct] 31 (0, 0))) ∧ Aside0 (0 < M.tr.length → ∃ gt, To = some ⟨gt, 0, none⟩ ∧ Wi.heap.size ≤ gt ∧ gt < go ∧ CellB 54 (M.tr.length * 3) gt W) ∧ Aside0 (Below Wi.heap.size Wi W)) (fun v20 _ => M.tr.length - (intOf v20).toNat)
                case atStart => exact ⟨0, rfl, by omega, HO8, HT8, HB8_⟩
                case round =>
                 clear HO8 HT8 HB8_
                 obtain ⟨k, rfl, hk, HO7, HT7, HB7⟩ := hrel
                 have y4 := blk_cell HO7.out 4
                 simp only [List.getElem?_toArray, List.getElem?_cons_zero, List.getElem?_cons_succ] at y4
                 by_cases hlt : k < M.tr.length
                 · have t2_ : decide ((k : Int) < (M.tr.length : Int)) = true := decide_eq_true (by omega)
                   have u2_ : ((k : Int) < (M.tr.length : Int)) = True := eq_true (by omega)
                   have u3_ : (0 ≤ (k : Int)) = True := eq_true (by omega)
                   obtain ⟨gt, rfl, gt1, gt2, hC⟩ := HT7.out (by omega)
                   obtain ⟨v, hv⟩ := hC.cell (j := k * 3 + 2) (by omega)
                   have hz := hC.frozen (k * 3 + 2)
                   have HK7 := Aside0.mk (show k < M.tr.length ∧ Wi.heap.size ≤ gt ∧ gt < go from ⟨hlt, gt1, gt2⟩)
                   have HC7 := Aside0.mk hC
                   clear hlt gt1 gt2 hC
                   go_wp2_with fail
                   have hk3 := HK7.out
                   have hw : wrap64 ((k : Int) + 1) = ((k + 1 : Nat) : Int) := by
                    have := HBM.out.2.2.1
                    unfold wrap64
                    omega
                   rw [hw]
                   exact ⟨⟨k + 1, rfl, by omega, ⟨blk_far HO7.out (p := ⟨gt, k * 3 + 2, none⟩) (by show go ≠ gt; omega) _⟩, ⟨fun _ => ⟨gt, rfl, hk3.2.1, hk3.2.2, HC7.out.put gt (k * 3 + 2) _⟩⟩, ⟨HB7.out.setCell (p := ⟨gt, k * 3 + 2, none⟩) hk3.2.1 _⟩⟩, by simp only [intOf, Int.toNat_natCast]; omega⟩
                 · have t2_ : decide ((k : Int) < (M.tr.length : Int)) = false := decide_eq_false (by omega)
                   have u2_ : ((k : Int) < (M.tr.length : Int)) = False := eq_false (by omega)
                   have HB9 := Aside0.mk HB7.out
                   have HS9 := Aside0.mk (HST.out.below HB7.out)
                   clear hlt
                   go_wp2_with fail
                   have HQ := Aside0.mk (EStep.step_eq HS9.out.e.me HS9.out.e.code (by rw [HBM.out.2.2.2]; exact codeL_bytes Fl) (by rw [HBM.out.2.2.2]; have := HCL.out; omega) (by have := HBM.out.2.2.1; omega) (by have := HBM.out.1; omega) (by have := HBM.out.2.1; omega))
                   refine HQ.out.mono ?_
                   rintro e W8 ⟨rfl, hl8⟩
                   obtain ⟨t8, he8, hr8, hd8, hb8_⟩ := HS9.out.stepE (by rw [HBM.out.2.2.2]; exact HCA.out) hl8
                   have HE8 := Aside0.mk he8
                   have HR8 := Aside0.mk hr8
                   have HD8 := Aside0.mk hd8
                   have HB8 := Aside0.mk hb8_
                   have HQ2 := Aside0.mk (RStep.step_eq hr8.mr hr8.code (by rw [HBM.out.2.2.2]; exact codeL_bytes Fl) (by rw [HBM.out.2.2.2]; have := HCL.out; omega) (by have := HBM.out.2.2.1; omega) (by have := HBM.out.1; omega) (by have := HBM.out.2.1; omega))
                   clear hl8 he8 hr8 hd8 hb8_ HQ y4 t2_ u2_
                   go_wp2_with fail
                   refine HQ2.out.mono ?_
                   rintro e W9 ⟨rfl, hl9⟩
                   obtain ⟨f9, t9, hs9⟩ := StepsP.St.stepR HPB.out.1 HE8.out HR8.out HD8.out HB8.out hl9
                   have HSN := Aside0.mk hs9
                   clear hl9 hs9 HQ2
                   have hii := HI6.out
                   generalize (stepM M).done = dn at *
                   have hbb : (dn != dn) = false := bne_self_eq_false dn
                   go_wp2_with fail
                   have hw : (i : Int) + 1 = ((i + 1 : Nat) : Int) := by omega
                   rw [hw]
                   exact ⟨⟨i + 1, t8, f9, t9, rfl, by omega, ⟨by rw [← HSM.out]; exact HSN.out⟩⟩, by simp only [intOf, Int.toNat_natCast]; omega⟩
           · have t1 : decide ((i : Int) < 64) = false := decide_eq_false (by omega)
             have u1 : ((i : Int) < 64) = False := eq_false (by omega)
             have HBZ := Aside0.mk (below_step HBP.out HST.out.bl)
             clear hlt
             go_wp2_with fail
             go_ret
             exact ⟨rfl, HBZ.out⟩
end Go.Proofs.YtcgkgaibomcheaaGreat.StepsL
end
section
namespace Go.Proofs.YtcgkgaibomcheaaGreat.rvemuSteps
open Go.ChangeShapes Go.WideShapes Go.ChangeAt Go.RowKit Go.Deep Go.Joins
open Go.ChangeMaps (open_string shut_string)
theorem own : ownKnob Tryz.prog.godebug = none := by kernel_rfl
theorem laidOut : laidOutB Tryz.prog = true := by kernel_rfl
set_option maxRecDepth 100000 in
theorem law {H : Type} {enc : TypeId × Value → H} (W : World) (v0 : Value) (d0 : DataW H) (p0 : List MemPlace) (v1 : Value) (d1 : DataW H) (p1 : List MemPlace) (h0 : DataW.Trod enc Tryz.prog W 0 (fun _ => true) true 36 v0 d0 p0) (o0 : Value.okWide Tryz.prog W .any 0 36 v0) (h1 : DataW.Trod enc Tryz.prog W 0 (fun _ => true) true 25 v1 d1 p1) (o1 : Value.okWide Tryz.prog W .any 0 25 v1) (hsz : (DataW.weightsEach Tryz.prog [36, 25] [d0, d1]).all (· ≤ reachBytes) = true) :
 Calls Tryz.prog 5 #[v0, v1] W fun e w' => e = .returned (.bool true) ∧ Below W.heap.size W w' := by
 have hw : (d1.weights Tryz.prog 25).all (· ≤ reachBytes) = true := by
  have h2 := hsz
  simp only [DataW.weightsEach, List.all_append, Bool.and_eq_true] at h2
  exact h2.2.1
 obtain ⟨lA, c0, l, rfl, hlc, h40, hl, _⟩ := OpenRv.open_list hsz (j := 0) rfl rfl o0 h0
 obtain ⟨cA, dA, rA, sA, cc, dc, rc, sc, lc, ld, ls, lr, fr, fu, rfl, he, b1, b2, b3, b4, _, _⟩ := OpenEnv.open_env o1 h1 hw
 have hrb : reachBytes = 140737488351232 := rfl
 have q2 := he.hdc
 have q3 := he.hrc
 have q4 := he.hsc
 exact StepsL.walk lA c0 l W hl hlc (by omega) cA dA rA sA cc dc rc sc lc ld ls lr fr fu he (by omega) (by omega) (by omega)
set_option maxRecDepth 100000 in
theorem lifted (os : Os) (started : os.Started) (H : Type) (enc : TypeId × Value → H) :
 ReturnsInHanded {} Tryz.checked os 5 .any (Rows.rvemuStepsSpec.pre6 enc Tryz.prog Tryz.f5 Rows.rvemuStepsRow.domain false) (Rows.rvemuStepsSpec.post enc Tryz.prog Tryz.f5 false true false false) := by
 refine returnsInHanded_of_change_sized (C := Tryz.checked) own started (by kernel_rfl) Tryz.func5
  (ChangeSpec.witness6 (enc := enc) (C := Tryz.checked) false ⟨#[], #[.slice none 0 0, .agg #[.slice none 0 0, .slice none 0 0, .slice none 0 0, .slice none 0 0, .int .i64 0, .int .i64 0]], []⟩ 8 (by kernel_rfl) (by kernel_rfl) (by kernel_rfl) (by kernel_rfl)) ?_
 intro W base args ds gs before hval0 hW hcnd hsz0 _
 have hsz : (DataW.weightsEach Tryz.prog (Tryz.f5.params.toList ++ Rows.rvemuStepsSpec.plain.varTypes Tryz.prog) (ds ++ gs)).all (· ≤ reachBytes) = true := hsz0
 have hval : ∀ (j : Nat) t v, Tryz.f5.params[j]? = some t → args[j]? = some v → Value.okWide Tryz.prog W .any base t v := hval0
 have hW' := hW
 obtain ⟨p, q, hA0, hV, rfl, hfz, hnd⟩ := hW
 have hA : DataW.TrodAll enc Tryz.prog W 0 (fun _ => true) true Tryz.f5.params.toList args.toList ds p := hA0
 rw [Tryz.params5] at hA hval hsz
 obtain ⟨v0, vs0, d0, ds0, p0, q0, hargs, rfl, rfl, h0, r0⟩ := trodAll_cons hA
 obtain ⟨v1, vs1, d1, ds1, p1, q1, rfl, rfl, rfl, h1, r1⟩ := trodAll_cons r0
 obtain ⟨rfl, rfl, rfl⟩ := trodAll_nil r1
 obtain rfl : args = #[v0, v1] := by cases args; simp_all
 obtain ⟨rfl, rfl⟩ := trodVars_none hV
 have k0 := h0
 have lt0 : ∀ x ∈ p0, x.block < W.heap.size := by obtain ⟨m, hm⟩ := k0; exact DataW.trod_lt m _ _ _ hm
 have k1 := h1
 have lt1 : ∀ x ∈ p1, x.block < W.heap.size := by obtain ⟨m, hm⟩ := k1; exact DataW.trod_lt m _ _ _ hm
 refine (law (enc := enc) W v0 d0 p0 v1 d1 p1 h0 (hval 0 36 v0 rfl rfl) h1 (hval 1 25 v1 rfl rfl) hsz).mono fun e W' ⟨he, bel⟩ => ?_
 subst he
 exact ⟨_, rfl, _, _, _, [], _, [], hW', trodAll_mk1 (shut_bool Tryz.underlying4 _), (trodAll_cons_mk (Below.trod laidOut (by kernel_rfl) (of_decide_eq_true (by kernel_rfl)) k0 bel lt0) (trodAll_cons_mk (Below.trod laidOut (by kernel_rfl) (of_decide_eq_true (by kernel_rfl)) k1 bel lt1) trodAll_mk0)), rfl, bel.frame _, fun h => by cases h⟩
theorem over : Rows.rvemuStepsRow.holds Tryz.pinned (OpenSpec.ofChange Rows.rvemuStepsSpec) :=
 OpenClaim.holds_of_wide 5 Tryz.f5 rfl rfl rfl rfl rfl rfl rfl ⟨rfl, rfl, rfl, rfl, rfl⟩ rfl rfl rfl rfl rfl (by kernel_rfl) Tryz.func5 (by kernel_rfl)
  (of_decide_eq_true (by kernel_rfl)) (by unfold Func.isWrapper; first | (rw [if_pos (by decide +kernel)]; kernel_rfl) | (rw [if_neg (by decide +kernel)]; exact ⟨rfl, rfl⟩))
  (fun os started H enc _ => lifted os started H enc)
end Go.Proofs.YtcgkgaibomcheaaGreat.rvemuSteps
namespace Go.Proofs.YtcgkgaibomcheaaGreat
theorem rvemuSteps_holds : Rows.RvemuStepsSaid := rvemuSteps.over
end Go.Proofs.YtcgkgaibomcheaaGreat
end
