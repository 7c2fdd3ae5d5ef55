/- Joined texts: RunsL, OpenRv, FineP, Conf, AccessL, CodeL, RowRvemuCode. Conditions: those of each theorem. -/
import Derived.Test.YtcgkgaibomcheaaGreatZC01
import Derived.Test.YtcgkgaibomcheaaGreatZC21
import Derived.Test.YtcgkgaibomcheaaGreatZC22
import Derived.Test.YtcgkgaibomcheaaGreatRows
import Derived.Test.YtcgkgaibomcheaaGreatZC20
import Derived.WalkKit
import Derived.ProofKit
import Derived.OpenShut
import Derived.ShutString
import Derived.ChangeOld
import Derived.Below
import Derived.SizedLaws
import Derived.Lib.SmallJoins
import Derived.Deep.Slices
import Derived.Deep.Fields
import Derived.ChangeSame
import Derived.Test.YtcgkgaibomcheaaGreatZC12
import Derived.Test.YtcgkgaibomcheaaGreatZC18
import Derived.Test.YtcgkgaibomcheaaGreatZC16
set_option linter.unusedVariables false
set_option linter.unusedSimpArgs false
section
namespace Go.Proofs.YtcgkgaibomcheaaGreat.RunsL
open Go.RowKit Bits Mac Mb Rd RDec EM EOut NewM Go.Proofs.YtcgkgaibomcheaaGreat.Pure Goes Fit EndsL SameH KeptH PRvemuRuns YtcgkgaibomcheaaGreatW.PrintWords YtcgkgaibomcheaaGreatW.PrintLast YtcgkgaibomcheaaGreatW.PrintMore
theorem C_pre {α : Type} {d : Kd α} {e base c : Nat} {ok : Nat → Prop} {w : World} {A : Option Addr} {xs : List α} {p : α} (h : d.R e w base ok (.slice A (xs.length + 1) c) (xs ++ [p])) : d.C w A xs.length xs ∧ xs.length ≤ c := by
 obtain ⟨h1, h2, h3⟩ := Kd.R_reads' h
 refine ⟨⟨rfl, by have := h3.2.1; rw [List.length_append, List.length_singleton] at this; omega, fun hp => ?_⟩, by omega⟩
 obtain ⟨ad, ea, hc⟩ := h3.2.2 (by rw [List.length_append, List.length_singleton]; omega)
 refine ⟨ad, ea, fun j q hj => hc j q ?_⟩
 rw [List.getElem?_append_left (List.getElem?_eq_some_iff.1 hj).1]
 exact hj
theorem tr_len {lc ld lr ls : List Int} {fr fu : Int} {m : Mac} (hm : m = runM (newM lc ld lr ls fr fu)) (hfu : fu ≤ 1000000) : m.tr.length ≤ 1000000 := by
 have h := inv_it (inv_new lc ld lr ls fr fu) ((newM lc ld lr ls fr fu).fuel.toNat + 1)
 have e : it ((newM lc ld lr ls fr fu).fuel.toNat + 1) (newM lc ld lr ls fr fu) = m := hm.symm
 rw [e] at h
 have hst := h.steps
 have hmx := h.max
 have hfl := h.fuel
 have htr := h.tr
 rw [new_fuel] at hfl
 omega
set_option maxRecDepth 20000 in
set_option maxHeartbeats 2000000 in
theorem walk (cA dA rA sA : Option Addr) (cc dc rc sc : Nat) (lc ld ls lr : List Int) (fr fu : Int) (w : World) (h : EnvAt w cA dA rA sA cc dc rc sc lc ld ls lr)
 (hlc : lc.length + 1 ≤ 140737488355328) (hld : ld.length + 1 ≤ 140737488355328) (hls : ls.length + 1 ≤ 140737488355328) (hlr : (lr.length + 1) * 8 ≤ 140737488355328) :
 Calls Tryz.prog 3 #[.agg #[.slice cA lc.length cc, .slice dA ld.length dc, .slice rA lr.length rc, .slice sA ls.length sc, .int .i64 fr, .int .i64 fu]] w fun e w' => e = .returned (.bool true) ∧ Below w.heap.size w w' := by
 have hbA := below_alloc (Below.refl w.heap.size w) (.cells #[.slice cA lc.length cc, .slice dA ld.length dc, .slice rA lr.length rc, .slice sA ls.length sc, .int .i64 fr, .int .i64 fu] 25)
 have HA := Aside0.mk (blk_new w (.cells #[.slice cA lc.length cc, .slice dA ld.length dc, .slice rA lr.length rc, .slice sA ls.length sc, .int .i64 fr, .int .i64 fu] 25))
 have HE := Aside0.mk h
 have HB := Aside0.mk hbA
 have HLC := Aside0.mk hlc
 have HLD := Aside0.mk hld
 have HLS := Aside0.mk hls
 have HLR := Aside0.mk hlr
 clear h hbA hlc hld hls hlr
 go_enter Tryz.func3, Tryz.ntmps3
 go_wp2_with fail
 refine (Head.head _).mono ?_
 rintro e w1 ⟨rfl, hb1⟩
 have HA1 := Aside0.mk (blk_below HA.out hb1)
 have HB1 := Aside0.mk (below_step HB.out hb1)
 have z0 := blk_cell HA1.out 0
 have z1 := blk_cell HA1.out 1
 have z2 := blk_cell HA1.out 2
 have z3 := blk_cell HA1.out 3
 have z4 := blk_cell HA1.out 4
 have z5 := blk_cell HA1.out 5
 simp only [List.getElem?_toArray, List.getElem?_cons_zero, List.getElem?_cons_succ] at z0 z1 z2 z3 z4 z5
 clear hb1 HA HB
 go_wp2_with fail
 refine (Fit.fit cA dA rA sA cc dc rc sc _ _ _ _ fr fu _).mono ?_
 rintro e w8 ⟨rfl, hb8⟩
 have HB8 := Aside0.mk (below_step HB1.out hb8)
 have HF := Aside0.mk (fitFu_le fu)
 generalize fitFr fr = fr2 at *
 generalize fitFu fu = fu2 at *
 clear hb8 z0 z1 z2 z3 z4 z5 HA1 HB1
 have HLENT := Aside0.mk (show ∀ W, Below w.heap.size w W → _ from fun W hb => Lent.lent cA dA rA sA cc dc rc sc lc ld ls lr fr2 fu2 W (HE.out.below hb) HLC.out HLD.out HLS.out HLR.out)
 go_wp2_with fail
 refine (HLENT.out _ (below_alloc HB8.out _)).mono ?_
 rintro e wl ⟨Ac, Ad, Ar, As, kc, kd, kr, ks, b1, rfl, hRc, hRd, _, _, hRr, hRs, hbl⟩
 have HBL := Aside0.mk (below_step (below_alloc HB8.out _) hbl)
 have HEL := Aside0.mk (blk_below (blk_new w8 (.cells #[.slice cA lc.length cc, .slice dA ld.length dc, .slice rA lr.length rc, .slice sA ls.length sc, .int .i64 fr2, .int .i64 fu2] 25)) hbl)
 have hbx := below_alloc (Below.refl wl.heap.size wl) (.cells #[.slice Ac lc.length kc, .slice Ad ld.length kd, .slice Ar lr.length kr, .slice As ls.length ks, .int .i64 fr2, .int .i64 fu2] 25)
 have HBX := Aside0.mk (below_step HBL.out hbx)
 have HEX := Aside0.mk (blk_below HEL.out hbx)
 have HXX := Aside0.mk (blk_new wl (.cells #[.slice Ac lc.length kc, .slice Ad ld.length kd, .slice Ar lr.length kr, .slice As ls.length ks, .int .i64 fr2, .int .i64 fu2] 25))
 have HPc := Aside0.mk (C_pre (Kd.R_below hRc hbx))
 have HPd := Aside0.mk (C_pre (Kd.R_below hRd hbx))
 have HPr := Aside0.mk (C_pre (Kd.R_below hRr hbx))
 have HPs := Aside0.mk (C_pre (Kd.R_below hRs hbx))
 clear hbl hbx hRc hRd hRr hRs HLENT
 obtain ⟨ge, hge⟩ : ∃ ge, w8.heap.size = ge := ⟨_, rfl⟩
 rw [hge] at HEL HEX
 go_wp2_with fail
 generalize wl.alloc (.cells #[.slice Ac lc.length kc, .slice Ad ld.length kd, .slice Ar lr.length kr, .slice As ls.length ks, .int .i64 fr2, .int .i64 fu2] 25) = Wx at *
 generalize wl.heap.size = gx at *
 refine (ERun.runs Ac Ad Ar As kc kd kr ks lc ld ls lr fr2 fu2 _ HPc.out.1 (by have := HLC.out; omega) HPd.out.1 HPr.out.1 HPs.out.1 HE.out.bc HE.out.bd HE.out.bs HE.out.wr HF.out).mono ?_
 rintro e w11 ⟨m, vr, vt, hm, rfl, hr, ht, hb11⟩
 obtain ⟨Br, cr, ear⟩ := Kd.R_slice hr
 obtain ⟨Bt, ct, eat⟩ := Kd.R_slice ht
 subst ear eat
 have HM := Aside0.mk hm
 have hbo := below_alloc (Below.refl w11.heap.size w11) (.cells #[.int .i64 m.err, .int .i64 (atOf m), .int .i64 m.steps, .slice Br (regsOf m).length cr, .slice Bt m.tr.length ct] 31)
 have hbX := below_step hb11 hbo
 have HBO := Aside0.mk (below_step HBX.out hbX)
 have HEO := Aside0.mk (blk_below HEX.out hbX)
 have HXO := Aside0.mk (blk_below HXX.out hbX)
 have HOO := Aside0.mk (blk_new w11 (.cells #[.int .i64 m.err, .int .i64 (atOf m), .int .i64 m.steps, .slice Br (regsOf m).length cr, .slice Bt m.tr.length ct] 31))
 have HRR := Aside0.mk (Kd.R_below hr hbo)
 have HRT := Aside0.mk (Kd.R_below ht hbo)
 have HQc := Aside0.mk (Kd.C_below HPc.out.1 hbX)
 have HQd := Aside0.mk (Kd.C_below HPd.out.1 hbX)
 have HQr := Aside0.mk (Kd.C_below HPr.out.1 hbX)
 have HQs := Aside0.mk (Kd.C_below HPs.out.1 hbX)
 have HTL := Aside0.mk (tr_len HM.out HF.out)
 clear hr ht hm hbo hbX hb11 HEX HXX HBX HB8 HBL HEL
 go_wp2_with fail
 generalize w11.alloc (.cells #[.int .i64 m.err, .int .i64 (atOf m), .int .i64 m.steps, .slice Br (regsOf m).length cr, .slice Bt m.tr.length ct] 31) = W0 at *
 generalize w11.heap.size = go at *
 have y0 := blk_cell HOO.out 0
 have y1 := blk_cell HOO.out 1
 have y2 := blk_cell HOO.out 2
 have y3 := blk_cell HOO.out 3
 have y4 := blk_cell HOO.out 4
 simp only [List.getElem?_toArray, List.getElem?_cons_zero, List.getElem?_cons_succ] at y0 y1 y2 y3 y4
 have z0 := blk_cell HEO.out 0
 have z1 := blk_cell HEO.out 1
 have z2 := blk_cell HEO.out 2
 have z3 := blk_cell HEO.out 3
 have z4 := blk_cell HEO.out 4
 have z5 := blk_cell HEO.out 5
 simp only [List.getElem?_toArray, List.getElem?_cons_zero, List.getElem?_cons_succ] at z0 z1 z2 z3 z4 z5
 have HRUN := Aside0.mk (show ∀ W, Below W0.heap.size W0 W → _ from fun W hb => RRun.runs cA dA rA sA cc dc rc sc lc ld ls lr fr2 fu2 W (HE.out.below (below_step HBO.out hb)).hc HE.out.hcc (by have := HLC.out; omega) (HE.out.below (below_step HBO.out hb)).hd HE.out.hdc (HE.out.below (below_step HBO.out hb)).hr (HE.out.below (below_step HBO.out hb)).hs HE.out.hsc HE.out.bc HE.out.bd HE.out.bs HE.out.wr HF.out)
 have HSAME := Aside0.mk (show ∀ (Br2 : Option Addr) (cr2 : Nat) (Bt2 : Option Addr) (ct2 : Nat) (W : World), Below W0.heap.size W0 W → ((regsOf m).length = (regsOf m).length ∧ (regsOf m).length ≤ cr2 ∧ (Kd.int .u64).C W Br2 (regsOf m).length (regsOf m)) → (m.tr.length = m.tr.length ∧ m.tr.length ≤ ct2 ∧ k54.C W Bt2 m.tr.length m.tr) → Calls Tryz.prog 14 #[.agg #[.int .i64 m.err, .int .i64 (atOf m), .int .i64 m.steps, .slice Br (regsOf m).length cr, .slice Bt m.tr.length ct], .agg #[.int .i64 m.err, .int .i64 (atOf m), .int .i64 m.steps, .slice Br2 (regsOf m).length cr2, .slice Bt2 m.tr.length ct2]] W fun e w' => e = .returned (.bool true) ∧ Below W.heap.size W w' from fun Br2 cr2 Bt2 ct2 W hb h1 h2 =>
  same_yes m.err (atOf m) m.steps Br Br2 Bt Bt2 cr cr2 ct ct2 (regsOf m) m.tr W (Kd.C_below (Kd.R_reads' HRR.out).2.2 hb) h1.2.2 (Kd.C_below (Kd.R_reads' HRT.out).2.2 hb) h2.2.2 (by rw [regs_len]; omega) HTL.out)
 have hu31 := Tryz.underlying31
 have hu25 := Tryz.underlying25
 have L := below_drew1 (Below.refl W0.heap.size W0)
 refine start_ (n := 5) (S := fun w' => w'.cell? ⟨go, 0, none⟩ = some (.int .i64 m.err) ∧ w'.cell? ⟨go, 1, none⟩ = some (.int .i64 (atOf m)) ∧ w'.cell? ⟨go, 2, none⟩ = some (.int .i64 m.steps) ∧ w'.cell? ⟨go, 3, none⟩ = some (.slice Br (regsOf m).length cr) ∧ w'.cell? ⟨go, 4, none⟩ = some (.slice Bt m.tr.length ct) ∧ w'.cell? ⟨ge, 0, none⟩ = some (.slice cA lc.length cc) ∧ w'.cell? ⟨ge, 1, none⟩ = some (.slice dA ld.length dc) ∧ w'.cell? ⟨ge, 2, none⟩ = some (.slice rA lr.length rc) ∧ w'.cell? ⟨ge, 3, none⟩ = some (.slice sA ls.length sc) ∧ w'.cell? ⟨ge, 4, none⟩ = some (.int .i64 fr2) ∧ w'.cell? ⟨ge, 5, none⟩ = some (.int .i64 fu2)) (ds := []) #[vF,vF,vF,vF,vF] (by kernel_rfl) rfl rfl ⟨kB L y0, kB L y1, kB L y2, kB L y3, kB L y4, kB L z0, kB L z1, kB L z2, kB L z3, kB L z4, kB L z5⟩ (fun hHeld => ?_)
 refine take_ (i := 0) (N := some 16) (v := ?_) (a' := ?_) #[vT,vF,vF,vF,vF] rfl rfl (by kernel_rfl) (fun _ _ _ h => h) (Or.inl ⟨by rfl, ?_⟩) hHeld ?_ ?_
 rotate_left
 · rintro w' ⟨s0, s1, s2, s3, s4, s5, s6, s7, s8, s9, s10⟩; go_simp; with_reducible rfl
 rotate_left
 · simp only [Act.put, List.setIfInBounds_toArray, List.set, i64_w, i32_w]
   rfl
 refine take_ (i := 1) (N := some 17) (v := ?_) (a' := ?_) #[vT,vT,vF,vF,vF] rfl rfl (by kernel_rfl) (fun _ _ _ h => h) (Or.inl ⟨by rfl, ?_⟩) hHeld ?_ ?_
 rotate_left
 · rintro w' ⟨s0, s1, s2, s3, s4, s5, s6, s7, s8, s9, s10⟩; go_simp; with_reducible rfl
 rotate_left
 · simp only [Act.put, List.setIfInBounds_toArray, List.set, i64_w, i32_w]
   rfl
 refine one_ (i := 2) (N := some 18) #[vT,vT,vT,vF,vF] rfl rfl (by kernel_rfl) (by decide) (fun K hK => ?_)
 refine goes_ Tryz.func15 (by kernel_rfl) rfl #[.agg #[.slice cA lc.length cc, .slice dA ld.length dc, .slice rA lr.length rc, .slice sA ls.length sc, .int .i64 fr2, .int .i64 fu2]] (by rfl) rfl rfl (by simp only [List.map_toArray, List.map_cons, List.map_nil]; rfl) ?_
 with_reducible refine (HRUN.out _ L).mono ?_
 rintro e w13 ⟨m2, vr2, vt2, hm2, rfl, hr2, ht2, _, hb13⟩
 refine ⟨_, rfl, ?_⟩
 have L := below_step L hb13
 obtain ⟨Br2, cr2, ear2⟩ := Kd.R_slice hr2
 obtain ⟨Bt2, ct2, eat2⟩ := Kd.R_slice ht2
 subst ear2 eat2
 have em := HM.out.trans hm2.symm
 subst em
 have HVR2 := Aside0.mk (Kd.R_reads' hr2)
 have HVT2 := Aside0.mk (Kd.R_reads' ht2)
 clear hr2 ht2 hm2 hb13
 refine hK.out _ _ ⟨kB L y0, kB L y1, kB L y2, kB L y3, kB L y4, kB L z0, kB L z1, kB L z2, kB L z3, kB L z4, kB L z5⟩ (fun hHeld => ?_)
 clear hK K
 refine norm_ (a' := ?_) ?_ ?_
 rotate_left
 · show Act.put _ (some 18) _ = _; simp only [Act.put, List.setIfInBounds_toArray, List.set, i64_w, i32_w]; rfl
 refine one_ (i := 3) (N := some 19) #[vT,vT,vT,vT,vF] rfl rfl (by kernel_rfl) (by decide) (fun K hK => ?_)
 refine goes_ Tryz.func14 (by kernel_rfl) rfl #[.agg #[.int .i64 m.err, .int .i64 (atOf m), .int .i64 m.steps, .slice Br (regsOf m).length cr, .slice Bt m.tr.length ct], .agg #[.int .i64 m.err, .int .i64 (atOf m), .int .i64 m.steps, .slice Br2 (regsOf m).length cr2, .slice Bt2 m.tr.length ct2]] (by rfl) rfl rfl (by simp only [List.map_toArray, List.map_cons, List.map_nil]; rfl) ?_
 with_reducible refine (HSAME.out Br2 cr2 Bt2 ct2 _ L HVR2.out HVT2.out).mono ?_
 rintro e w14 ⟨rfl, hb14⟩
 refine ⟨_, rfl, ?_⟩
 have L := below_step L hb14
 refine hK.out _ _ ⟨kB L y0, kB L y1, kB L y2, kB L y3, kB L y4, kB L z0, kB L z1, kB L z2, kB L z3, kB L z4, kB L z5⟩ (fun hHeld => ?_)
 clear hK K
 refine norm_ (a' := ?_) ?_ ?_
 rotate_left
 · show Act.put _ (some 19) _ = _; simp only [Act.put, List.setIfInBounds_toArray, List.set, i64_w, i32_w]; rfl
 refine pure_ (i := 4) (N := some 7) (v := ?_) (a' := ?_) #[vT,vT,vT,vT,vT] rfl rfl (by kernel_rfl) (fun _ _ _ h => h) (Or.inl ⟨by rfl, ?_⟩) ?_ ?_
 rotate_left
 · intro w'; go_simp; with_reducible rfl
 rotate_left
 · simp only [Act.put, List.setIfInBounds_toArray, List.set, i64_w, i32_w]
   rfl
 refine done_ (by kernel_rfl) ?_
 have HXL := Aside0.mk (blk_below HXO.out L)
 have HEL := Aside0.mk (blk_below HEO.out L)
 have HBZ := Aside0.mk (below_step HBO.out L)
 have x0 := blk_cell HXL.out 0
 have x1 := blk_cell HXL.out 1
 have x2 := blk_cell HXL.out 2
 have x3 := blk_cell HXL.out 3
 have x4 := blk_cell HXL.out 4
 have x5 := blk_cell HXL.out 5
 simp only [List.getElem?_toArray, List.getElem?_cons_zero, List.getElem?_cons_succ] at x0 x1 x2 x3 x4 x5
 have u0 := blk_cell HEL.out 0
 have u1 := blk_cell HEL.out 1
 have u2 := blk_cell HEL.out 2
 have u3 := blk_cell HEL.out 3
 have u4 := blk_cell HEL.out 4
 have u5 := blk_cell HEL.out 5
 simp only [List.getElem?_toArray, List.getElem?_cons_zero, List.getElem?_cons_succ] at u0 u1 u2 u3 u4 u5
 have eZ := HE.out.below HBZ.out
 have HKEPT := Aside0.mk (kept_yes Ac Ad Ar As cA dA rA sA kc kd kr ks cc dc rc sc lc ld lr ls fr2 fu2 _ (Kd.C_below HQc.out L) (Kd.C_below HQd.out L) (Kd.C_below HQr.out L) (Kd.C_below HQs.out L) eZ.hc eZ.hd eZ.hr eZ.hs (by have := HLR.out; omega))
 clear hHeld L eZ y0 y1 y2 y3 y4 z0 z1 z2 z3 z4 z5
 go_wp2_with fail
 refine HKEPT.out.mono ?_
 rintro e w15 ⟨rfl, hb15⟩
 have HBF := Aside0.mk (below_step HBZ.out hb15)
 clear hb15
 go_wp2_with fail
 go_ret
 exact ⟨rfl, HBF.out⟩
end Go.Proofs.YtcgkgaibomcheaaGreat.RunsL
end
section
namespace Go.Proofs.YtcgkgaibomcheaaGreat.OpenRv
open Go.ChangeShapes Go.WideShapes Go.RowKit Go.Deep Go.Joins PRvemuRuns YtcgkgaibomcheaaGreatW.PrintWords
def Rv64 (x : S42) : Prop := (-9223372036854775808 ≤ x.f0 ∧ x.f0 ≤ 9223372036854775807)
theorem elem {H : Type} {enc : TypeId × Value → H} {W : World} (fuel : Nat) (cs : List Value) (x : DataW H × List MemPlace) (h : DataW.trod enc Tryz.prog W 0 (fun _ => true) true fuel 42 cs = some x) :
 ∃ y : S42, k42.K W y cs ∧ Rv64 y := by
 obtain ⟨hlen, hf⟩ := Args.struct_cells Tryz.underlying42 (by kernel_rfl) (by kernel_rfl) h
 obtain ⟨u0, y0, n0, e0, t0⟩ := hf 0 _ rfl
 obtain ⟨u1, y1, n1, e1, t1⟩ := hf 1 _ rfl
 obtain ⟨u2, y2, n2, e2, t2⟩ := hf 2 _ rfl
 obtain ⟨u3, y3, n3, e3, t3⟩ := hf 3 _ rfl
 obtain ⟨u4, y4, n4, e4, t4⟩ := hf 4 _ rfl
 obtain ⟨a0, rfl, w0⟩ := Args.int_cell Tryz.underlying40 t0
 obtain ⟨a1, rfl, w1⟩ := Args.int_cell Tryz.underlying3 t1
 obtain ⟨a2, rfl, w2⟩ := Args.int_cell Tryz.underlying3 t2
 obtain ⟨a3, rfl, w3⟩ := Args.int_cell Tryz.underlying3 t3
 obtain ⟨a4, rfl, w4⟩ := Args.int_cell Tryz.underlying3 t4
 have hcs : cs = [.int .i64 a0, .int .i64 a1, .int .i64 a2, .int .i64 a3, .int .i64 a4] := by
  match cs, hlen with
  | [c0, c1, c2, c3, c4], _ => simp_all
 have h' : -9223372036854775808 ≤ a0 ∧ a0 ≤ 9223372036854775807 := by simpa [Lit.wf, IntKind.min, IntKind.max, IntKind.bits, IntKind.signed] using w0
 refine ⟨⟨a0, a1, a2, a3, a4⟩, ?_, h'⟩
 rw [hcs]
 exact k42_mk W _
set_option maxRecDepth 100000 in
theorem open_list {H : Type} {enc : TypeId × Value → H} {W : World} {v : Value} {D : DataW H} {p : List MemPlace} {ts : List TypeId} {ds : List (DataW H)} (hsz : (DataW.weightsEach Tryz.prog ts ds).all (· ≤ reachBytes) = true) {j : Nat} (hts : ts[j]? = some 36) (hds : ds[j]? = some D) (o : Value.okWide Tryz.prog W .any 0 36 v) (h : DataW.Trod enc Tryz.prog W 0 (fun _ => true) true 36 v D p) :
 ∃ (A : Option Addr) (cap : Nat) (l : List S42), v = .slice A l.length cap ∧ l.length ≤ cap ∧ l.length * 40 ≤ 140737488351232 ∧ k42.C W A l.length l ∧ (∀ x ∈ l, Rv64 x) := by
 obtain ⟨A, cap, xs, rfl, hl, _, hz, hr, hg⟩ := Args.slice_reads (d := k42) Rv64 hsz hts hds Tryz.underlying36 (by kernel_rfl) elem o h
 have hz' : cap * 40 ≤ reachBytes := hz
 have hrb : reachBytes = 140737488351232 := rfl
 exact ⟨A, cap, xs, rfl, hl, by omega, hr, hg⟩
end Go.Proofs.YtcgkgaibomcheaaGreat.OpenRv
end
section
namespace Go.Proofs.YtcgkgaibomcheaaGreat.FineP
open Go.RowKit Bits Dec Find Enc PRvemuRuns YtcgkgaibomcheaaGreatW.PrintWords YtcgkgaibomcheaaGreatW.PrintLast YtcgkgaibomcheaaGreatW.PrintMore
def encV (x : S42) : Nat × Int :=
 if 1 ≤ x.f0 ∧ x.f0 ≤ 34 then (if regsOk x.f0.toNat x.f1 x.f2 x.f3 = true then (if fits (formOf x.f0.toNat) x.f4 = true then (encW x.f0.toNat x.f1 x.f2 x.f3 x.f4, 0) else (0, 152)) else (0, 151)) else (0, 153)
theorem rowsL_len : rowsL.length = 34 := by decide +kernel
theorem rowsL_op : ∀ i : Fin 34, 1 ≤ (rowsL.getD i.1 z59).f0 ∧ (rowsL.getD i.1 z59).f0 ≤ 34 := by decide +kernel
theorem find_l0 (v : Int) (hv : ¬ (1 ≤ v ∧ v ≤ 34)) : ∀ (j : Nat) (k : Nat) (i : Nat), i + j = 34 → j < k → ravelinref15_Find.l0 k v rowsL (i : Int) = some (0, 0, 0, 0, 0, (⟨#[]⟩ : ByteArray), false)
 | 0, k + 1, i, hi, _ => by
  obtain rfl : i = 34 := by omega
  unfold ravelinref15_Find.l0
  rw [if_neg (by rw [rowsL_len]; omega)]
 | j + 1, k + 1, i, hi, hk => by
  have ho := rowsL_op ⟨i, by omega⟩
  unfold ravelinref15_Find.l0
  rw [if_pos (by rw [rowsL_len]; omega), if_pos (by omega)]
  have e : rd_T59 rowsL (i : Int) = rowsL.getD i z59 := rfl
  rw [e, if_neg (by intro h; rw [h] at ho; exact hv ho)]
  have ew : wrap64 ((i : Int) + 1) = ((i + 1 : Nat) : Int) := by
   unfold wrap64
   omega
  rw [ew]
  exact find_l0 v hv j k (i + 1) (by omega) (by omega)
theorem find_no (k : Nat) (hk : 40 ≤ k) (v : Int) (hv : ¬ (1 ≤ v ∧ v ≤ 34)) : ravelinref15_Find.f k v = some (0, 0, 0, 0, 0, (⟨#[]⟩ : ByteArray), false) := find_l0 v hv 34 k 0 rfl (by omega)
theorem enc_all (k : Nat) (hk : 100 ≤ k) (x : S42) : ravelinref15_Encode.f k x.f0 x.f1 x.f2 x.f3 x.f4 = some (((encV x).1 : Int), (encV x).2) := by
 unfold encV
 by_cases h : 1 ≤ x.f0 ∧ x.f0 ≤ 34
 · rw [if_pos h]
   have e : x.f0 = ((x.f0.toNat : Nat) : Int) := by omega
   have h' := enc_eq k hk x.f0.toNat (by omega) (by omega) x.f1 x.f2 x.f3 x.f4
   rw [← e] at h'
   rw [h']
   split
   · split <;> rfl
   · rfl
 · rw [if_neg h]
   unfold ravelinref15_Encode.f
   rw [find_no _ (by omega) _ h]
   rfl
def okV (x : S42) : Bool := (encV x).2 == 0
theorem okV_eq {x : S42} (h : okV x = true) : (encV x).2 = 0 := beq_iff_eq.1 h
def code4 (x : S42) : List Int := [((encV x).1 : Int) % 256, ((encV x).1 : Int) / 256 % 256, ((encV x).1 : Int) / 65536 % 256, ((encV x).1 : Int) / 16777216 % 256]
def codeL (l : List S42) : List Int := l.flatMap code4
theorem codeL_len (l : List S42) : (codeL l).length = 4 * l.length := by
 induction l with
 | nil => rfl
 | cons x l ih =>
  have e : codeL (x :: l) = code4 x ++ codeL l := rfl
  rw [e, List.length_append, ih, List.length_cons]
  show 4 + _ = _
  omega
theorem codeL_bytes (l : List S42) : isBytes (codeL l) := by
 intro b hb
 obtain ⟨x, _, hx⟩ := List.mem_flatMap.1 hb
 unfold code4 at hx
 simp only [List.mem_cons, List.not_mem_nil, or_false] at hx
 rcases hx with rfl | rfl | rfl | rfl <;> omega
theorem bytes_l0 (l : List S42) (hl : ∀ x ∈ l, okV x = true) (hn : 4 * l.length < 140737488355328) : ∀ (j : Nat) (k : Nat) (i : Nat), i + j = l.length → j + 101 ≤ k → ravelinref15_Bytes.l0 k l (codeL (l.take i)) (i : Int) = some (codeL l, 0, 0)
 | 0, k + 1, i, hi, _ => by
  obtain rfl : i = l.length := by omega
  unfold ravelinref15_Bytes.l0
  rw [if_neg (by omega), List.take_length]
 | j + 1, k + 1, i, hi, hk => by
  unfold ravelinref15_Bytes.l0
  have hil : i < l.length := by omega
  rw [if_pos (by omega), if_pos (by omega)]
  have e : rd_T42 l (i : Int) = l[i] := by
   show l.getD i z42 = _
   rw [List.getD_eq_getElem?_getD, List.getElem?_eq_getElem hil]
   rfl
  rw [e, enc_all k (by omega)]
  have h0 := okV_eq (hl _ (List.getElem_mem hil))
  simp only [Option.bind_some]
  rw [if_pos h0]
  have eq : codeL (l.take i) ++ code4 l[i] = codeL (l.take (i + 1)) := by
   rw [List.take_succ_eq_append_getElem hil]
   unfold codeL
   rw [List.flatMap_append]
   rfl
  have ew : wrap64 ((i : Int) + 1) = ((i + 1 : Nat) : Int) := by
   unfold wrap64
   omega
  have hlen : (codeL (l.take i)).length = 4 * i := by rw [codeL_len, List.length_take]; omega
  show (if (codeL (l.take i)).length + (code4 l[i]).length < 140737488355328 then _ else none) = _
  rw [hlen, if_pos (by show 4 * i + 4 < _; omega)]
  show ravelinref15_Bytes.l0 k l (codeL (l.take i) ++ code4 l[i]) _ = _
  rw [eq, ew]
  exact bytes_l0 l hl hn j k (i + 1) (by omega) (by omega)
theorem bytes_eq (l : List S42) (hl : ∀ x ∈ l, okV x = true) (hn : 4 * l.length < 140737488355328) : ravelinref15_Bytes.f (l.length + 101) l = some (codeL l, 0, 0) := bytes_l0 l hl hn l.length _ 0 (by omega) (by omega)
end Go.Proofs.YtcgkgaibomcheaaGreat.FineP
end
section
namespace Go.Proofs.YtcgkgaibomcheaaGreat.Conf
open Go.RowKit Bits Mac Mb Rd RDec RLoad Go.Proofs.YtcgkgaibomcheaaGreat.Pure PRvemuRuns YtcgkgaibomcheaaGreatW.PrintWords YtcgkgaibomcheaaGreatW.PrintLast YtcgkgaibomcheaaGreatW.PrintMore
theorem max2_mx (k k' : IntKind) (x y : Int) : Builtin.max2 (.int k x) (.int k' y) = pure (.int k (mx x y)) := max2_int k k' x y
attribute [local go_sem] max2_mx max_two
end Go.Proofs.YtcgkgaibomcheaaGreat.Conf
end
section
namespace Go.Proofs.YtcgkgaibomcheaaGreat.AccessL
open Go.RowKit Bits Mac Mb Rd RDec EM EOut NewM Go.Proofs.YtcgkgaibomcheaaGreat.Pure Goes Fit FineP Conf EndsL PRvemuRuns YtcgkgaibomcheaaGreatW.PrintWords YtcgkgaibomcheaaGreatW.PrintLast YtcgkgaibomcheaaGreatW.PrintMore
attribute [local go_sem] max2_int min2_int max_two min_two
theorem inf42 : (Tryz.prog.info? 42).map (fun i => (i.zero, i.size, i.bytes)) = some (some (.agg #[.int .i64 0, .int .i64 0, .int .i64 0, .int .i64 0, .int .i64 0]), 5, 40) := by kernel_rfl
theorem take_yes (l : List S42) (i : Nat) (hi : i < l.length) (h : okV (rd_T42 l (i : Int)) = true) : (l.take (i + 1)).filter okV = (l.take i).filter okV ++ [rd_T42 l (i : Int)] := by
 have e : rd_T42 l (i : Int) = l[i] := by
  show l.getD i z42 = _
  rw [List.getD_eq_getElem?_getD, List.getElem?_eq_getElem hi]
  rfl
 rw [e] at h ⊢
 rw [List.take_succ_eq_append_getElem hi, List.filter_append, List.filter_cons_of_pos h]
 rfl
theorem take_no (l : List S42) (i : Nat) (hi : i < l.length) (h : okV (rd_T42 l (i : Int)) = false) : (l.take (i + 1)).filter okV = (l.take i).filter okV := by
 have e : rd_T42 l (i : Int) = l[i] := by
  show l.getD i z42 = _
  rw [List.getD_eq_getElem?_getD, List.getElem?_eq_getElem hi]
  rfl
 rw [e] at h
 rw [List.take_succ_eq_append_getElem hi, List.filter_append, List.filter_cons_of_neg (by rw [h]; decide), List.filter_nil, List.append_nil]
end Go.Proofs.YtcgkgaibomcheaaGreat.AccessL
end
section
namespace Go.Proofs.YtcgkgaibomcheaaGreat.CodeL
open Go.RowKit Bits Mac Mb Rd RDec EM EOut NewM Go.Proofs.YtcgkgaibomcheaaGreat.Pure Goes Fit FineP AccessL Conf EndsL PRvemuRuns YtcgkgaibomcheaaGreatW.PrintWords YtcgkgaibomcheaaGreatW.PrintLast YtcgkgaibomcheaaGreatW.PrintMore
attribute [local go_sem] max2_int min2_int max_two min_two
set_option maxRecDepth 20000 in
set_option maxHeartbeats 1000000 in
theorem walk (lA : Option Addr) (c0 : Nat) (l : List S42) (w : World) (hl : k42.C w lA l.length l) (hlc : l.length ≤ c0) (hl40 : l.length * 40 ≤ 140737488355328) (cA dA rA sA : Option Addr) (cc dc rc sc : Nat) (lc ld ls lr : List Int) (fr fu : Int) (h : EnvAt w cA dA rA sA cc dc rc sc lc ld ls lr)
 (hld : ld.length + 1 ≤ 140737488355328) (hls : ls.length + 1 ≤ 140737488355328) (hlr : (lr.length + 1) * 8 ≤ 140737488355328) :
 Calls Tryz.prog 4 #[.slice lA l.length c0, .agg #[.slice cA lc.length cc, .slice dA ld.length dc, .slice rA lr.length rc, .slice sA ls.length sc, .int .i64 fr, .int .i64 fu]] w fun e w' => e = .returned (.bool true) ∧ Below w.heap.size w w' := by
 have hbA := below_alloc (Below.refl w.heap.size w) (.cells #[.slice cA lc.length cc, .slice dA ld.length dc, .slice rA lr.length rc, .slice sA ls.length sc, .int .i64 fr, .int .i64 fu] 25)
 have HA := Aside0.mk (blk_new w (.cells #[.slice cA lc.length cc, .slice dA ld.length dc, .slice rA lr.length rc, .slice sA ls.length sc, .int .i64 fr, .int .i64 fu] 25))
 have hu42 := Tryz.underlying42
 have HE := Aside0.mk h
 have HB := Aside0.mk hbA
 have HL := Aside0.mk hl
 have HLC := Aside0.mk hlc
 have HL40 := Aside0.mk hl40
 have HLD := Aside0.mk hld
 have HLS := Aside0.mk hls
 have HLR := Aside0.mk hlr
 clear hld hls hlr h hbA hl hlc hl40
 go_enter Tryz.func4, Tryz.ntmps4
 go_wp2_with fail
 have HA1 := HA
 have HB1 := HB
 clear HA HB
 generalize w.alloc (.cells #[.slice cA lc.length cc, .slice dA ld.length dc, .slice rA lr.length rc, .slice sA ls.length sc, .int .i64 fr, .int .i64 fu] 25) = w1 at *
 go_loopw [5, 6] (fun v6 v7 W => ∃ (i : Nat) (Af : Option Addr) (n cf : Nat), v7 = .int .i64 (i : Int) ∧ i ≤ l.length ∧ v6 = .slice Af n cf ∧ Aside0 (Kd.R k42 42 W w1.heap.size (fun _ => True) (.slice Af n cf) ((l.take i).filter okV)) ∧ Aside0 (Below w1.heap.size w1 W)) (fun v6 v7 _ => l.length - (intOf v7).toNat)
 case atStart => exact ⟨0, none, 0, 0, rfl, by omega, rfl, ⟨Kd.R_nil _ _ _ _ _⟩, ⟨Below.refl _ _⟩⟩
 case round =>
  obtain ⟨i, Af, n, cf, rfl, hi, rfl, HRF, HBW⟩ := hrel
  by_cases hlt : i < l.length
  · have t1 : decide ((i : Int) < (l.length : Int)) = true := decide_eq_true (by omega)
    have u1 : ((i : Int) < (l.length : Int)) = True := eq_true (by omega)
    have u2 : (0 ≤ (i : Int)) = True := eq_true (by omega)
    have HI := Aside0.mk hlt
    have HBL := Aside0.mk (below_step HB1.out HBW.out)
    obtain ⟨ad, rfl, x0, x1, x2, x3, x4⟩ := at_T42 (Kd.C_below HL.out HBL.out) (i : Int) (by omega) (by omega)
    simp only [Int.toNat_natCast] at x0 x1 x2 x3 x4
    clear hlt
    go_wp2_with fail
    refine (ravelinref15_Encode.calls 100 _ _ _ _ _ _ _ _ (enc_all 100 (by omega) (rd_T42 l (i : Int)))).mono ?_
    rintro e w5 ⟨rfl, hb5⟩
    have HRF5 := Aside0.mk (Kd.R_below HRF.out hb5)
    have HBW5 := Aside0.mk (below_step HBW.out hb5)
    replace x0 := kB hb5 x0
    replace x1 := kB hb5 x1
    replace x2 := kB hb5 x2
    replace x3 := kB hb5 x3
    replace x4 := kB hb5 x4
    clear hb5 HRF HBW
    by_cases hok : okV (rd_T42 l (i : Int)) = true
    · have e0 := okV_eq hok
      have c5b0 : ((encV (rd_T42 l (i : Int))).2 == 0) = true := beq_iff_eq.mpr e0
      have HN := Aside0.mk (take_yes l i HI.out hok)
      have HLN := Aside0.mk (show ((l.take i).filter okV).length ≤ i from by
       have := List.length_filter_le okV (l.take i)
       rw [List.length_take] at this
       omega)
      clear e0 hok
      generalize encV (rd_T42 l (i : Int)) = ev at *
      generalize rd_T42 l (i : Int) = xv at *
      go_wp2_with (first | ((with_reducible refine gate_dst (N := 30) rfl ?_); refine Kd.R_lit k42 _ 42 ?hg (N := 30) ?hd (xs := [xv]) (inner := [.int .i64 xv.f0, .int .i64 xv.f1, .int .i64 xv.f2, .int .i64 xv.f3, .int .i64 xv.f4]) (ok := fun _ => True) (okp := fun _ => True) ?hr ?hp (fun _ hk => hk) trivial (Below.refl _ _) (Nat.le_refl _) (by simp) ?_; (case hd => rfl); (case hg => rfl); (case hr => first | (go_simp; done) | (go_simp; rfl)); (case hp => exact (Reps.snoc (Reps.none _ _) (k42_mkM _ _ _ xv) rfl)); intro v35 w6 ho6 hb6 hg6_ hn6_; clear hg6_ hn6_; have HF6 := Aside0.mk (Kd.R_elder' HRF5.out (Kd.R_base ho6) hb6); have HO6 := Aside0.mk (Kd.R_lower (Kd.R_new' ho6 (Kd.R_lt HRF5.out)) (below_size HBW5.out)); have HBW6 := Aside0.mk (below_step HBW5.out hb6); clear hb6 ho6 HRF5 HBW5; obtain ⟨Ao6, co6, eo6⟩ := Kd.R_slice HO6.out; subst eo6) | ((with_reducible refine gate_builtin (b := .append) (xs := #[.tmp 25, .tmp 30]) rfl ?_); at_builtin; refine Kd.R_append_rows k42 (w0 := w1) w1.heap.size rfl (.tmp 25) (.tmp 30) 36 42 (.agg #[.int .i64 0, .int .i64 0, .int .i64 0, .int .i64 0, .int .i64 0]) 40 rfl Tryz.underlying36 inf42 rfl (by decide) (by omega) _ ((l.take i).filter okV) [xv] _ _ _ (fun k_ => some k_ ≠ (.slice Ao6 ([xv] : List S42).length co6 : Value).ownBlock) (fun _ => False) rfl rfl ?aO ?aR (fun _ _ h => h) (fun _ h => h.elim) ?aF ?aB ?aS ?aL ?_; (case aR => exact (Kd.R_reads' HO6.out).2.2); (case aB => exact HBW6.out); (case aF => exact (fun k_ hk => Kd.fresh' (Kd.R_lt HO6.out) k_ hk)); (case aO => exact Kd.R_mono HF6.out (fun _ hk => hk.2)); (case aS => exact below_size HBW6.out); (case aL => have h1 := HLN.out; have h2 := HI.out; have h3 := HL40.out; simp only [List.length_singleton]; omega); intro v36 w7 ho7 hb7 hg7 hat7; rw [← HN.out] at ho7; have HO7 := Aside0.mk ho7; have HB7 := Aside0.mk hb7; clear ho7 hb7 hg7 hat7))
      obtain ⟨A7, c7, e7⟩ := Kd.R_slice HO7.out
      subst e7
      have hi3 := HI.out
      have hw : wrap64 ((i : Int) + 1) = ((i + 1 : Nat) : Int) := by
       have := HL40.out
       unfold wrap64
       omega
      rw [hw]
      exact ⟨⟨i + 1, A7, _, c7, rfl, by omega, rfl, ⟨Kd.R_mono HO7.out (fun _ _ => trivial)⟩, HB7⟩, by simp only [intOf, Int.toNat_natCast]; omega⟩
    · have hok' : okV (rd_T42 l (i : Int)) = false := by cases hq : okV (rd_T42 l (i : Int)) with
       | true => exact absurd hq hok
       | false => rfl
      have e0 : ((encV (rd_T42 l (i : Int))).2 == 0) = false := hok'
      have HN := Aside0.mk (take_no l i HI.out hok')
      clear hok hok'
      go_wp2
      have hi3 := HI.out
      have hw : wrap64 ((i : Int) + 1) = ((i + 1 : Nat) : Int) := by
       have := HL40.out
       unfold wrap64
       omega
      rw [hw]
      exact ⟨⟨i + 1, Af, n, cf, rfl, by omega, rfl, ⟨by rw [HN.out]; exact HRF5.out⟩, HBW5⟩, by simp only [intOf, Int.toNat_natCast]; omega⟩
  · obtain rfl : i = l.length := by omega
    have HRL := HRF.out
    rw [List.take_length] at HRL
    obtain ⟨Fl, hFl⟩ : ∃ Fl, Fl = l.filter okV := ⟨_, rfl⟩
    rw [← hFl] at HRL
    have hfo : ∀ x ∈ Fl, okV x = true := fun x hx => by rw [hFl] at hx; exact (List.mem_filter.1 hx).2
    have hfl : Fl.length ≤ l.length := by rw [hFl]; exact List.length_filter_le _ _
    have HR := Aside0.mk HRL
    clear HRL HRF hFl
    obtain ⟨A7, c7, e7⟩ := Kd.R_slice HR.out
    injection e7 with e7 e8 e9
    subst e7 e8 e9
    have HBL := Aside0.mk (below_step HB1.out HBW.out)
    have HA2 := Aside0.mk (blk_below HA1.out HBW.out)
    clear HA1 hlt HBW
    go_wp2_with fail
    refine (ravelinref15_Bytes.calls (Fl.length + 101) Af cf Fl _ _ _ _ (Kd.R_reads' HR.out).2.2 (Kd.R_reads' HR.out).2.1 (bytes_eq Fl hfo (by have := HL40.out; omega))).mono ?_
    rintro e w9 ⟨v9, rfl, hr9, hb9⟩
    obtain ⟨A9, c9, e9⟩ := Kd.R_slice hr9
    subst e9
    have HB9 := Aside0.mk (below_step HBL.out hb9)
    have HE9 := Aside0.mk (blk_below HA2.out hb9)
    have HR9 := Aside0.mk hr9
    clear hb9 hr9 HR
    have z0 := blk_cell HE9.out 0
    have z1 := blk_cell HE9.out 1
    have z2 := blk_cell HE9.out 2
    have z3 := blk_cell HE9.out 3
    have z4 := blk_cell HE9.out 4
    have z5 := blk_cell HE9.out 5
    have f0 := blk_frozen HE9.out 0
    simp only [List.getElem?_toArray, List.getElem?_cons_zero, List.getElem?_cons_succ] at z0 z1 z2 z3 z4 z5
    go_wp2_with fail
    have HB10 := Aside0.mk (HB9.out.setCell (p := ⟨w.heap.size, 0, none⟩) (Nat.le_refl _) (.slice A9 (codeL Fl).length c9))
    have HR10 := Aside0.mk (Kd.R_set HR9.out HE9.out (by decide) 0 (.slice A9 (codeL Fl).length c9))
    have e10 := HE.out.below HB10.out
    have HCL := Aside0.mk (show (codeL Fl).length + 1 ≤ 140737488355328 from by rw [codeL_len]; have := HL40.out; omega)
    refine (RunsL.walk A9 dA rA sA c9 dc rc sc (codeL Fl) ld ls lr fr fu _ ⟨(Kd.R_reads' HR10.out).2.2, (Kd.R_reads' HR10.out).2.1, by have := HCL.out; omega, e10.hd, e10.hdc, e10.hr, e10.hrc, e10.hs, e10.hsc, codeL_bytes Fl, e10.bd, e10.bs, e10.wr⟩ HCL.out HLD.out HLS.out HLR.out).mono ?_
    rintro e w11 ⟨rfl, hb11⟩
    have HBF := Aside0.mk (below_step HB10.out hb11)
    clear hb11 e10 z0 z1 z2 z3 z4 z5 f0
    go_wp2_with fail
    go_ret
    exact ⟨rfl, HBF.out⟩
end Go.Proofs.YtcgkgaibomcheaaGreat.CodeL
end
section
namespace Go.Proofs.YtcgkgaibomcheaaGreat.rvemuCode
open Go.ChangeShapes Go.WideShapes Go.ChangeAt Go.RowKit Go.Deep Go.Joins
open Go.ChangeMaps (open_string shut_string)
theorem own : ownKnob Tryz.prog.godebug = none := by kernel_rfl
theorem laidOut : laidOutB Tryz.prog = true := by kernel_rfl
set_option maxRecDepth 100000 in
theorem law {H : Type} {enc : TypeId × Value → H} (W : World) (v0 : Value) (d0 : DataW H) (p0 : List MemPlace) (v1 : Value) (d1 : DataW H) (p1 : List MemPlace) (h0 : DataW.Trod enc Tryz.prog W 0 (fun _ => true) true 36 v0 d0 p0) (o0 : Value.okWide Tryz.prog W .any 0 36 v0) (h1 : DataW.Trod enc Tryz.prog W 0 (fun _ => true) true 25 v1 d1 p1) (o1 : Value.okWide Tryz.prog W .any 0 25 v1) (hsz : (DataW.weightsEach Tryz.prog [36, 25] [d0, d1]).all (· ≤ reachBytes) = true) :
 Calls Tryz.prog 4 #[v0, v1] W fun e w' => e = .returned (.bool true) ∧ Below W.heap.size W w' := by
 have hw : (d1.weights Tryz.prog 25).all (· ≤ reachBytes) = true := by
  have h2 := hsz
  simp only [DataW.weightsEach, List.all_append, Bool.and_eq_true] at h2
  exact h2.2.1
 obtain ⟨lA, c0, l, rfl, hlc, h40, hl, _⟩ := OpenRv.open_list hsz (j := 0) rfl rfl o0 h0
 obtain ⟨cA, dA, rA, sA, cc, dc, rc, sc, lc, ld, ls, lr, fr, fu, rfl, he, b1, b2, b3, b4, _, _⟩ := OpenEnv.open_env o1 h1 hw
 have hrb : reachBytes = 140737488351232 := rfl
 have q2 := he.hdc
 have q3 := he.hrc
 have q4 := he.hsc
 exact CodeL.walk lA c0 l W hl hlc (by omega) cA dA rA sA cc dc rc sc lc ld ls lr fr fu he (by omega) (by omega) (by omega)
set_option maxRecDepth 100000 in
theorem lifted (os : Os) (started : os.Started) (H : Type) (enc : TypeId × Value → H) :
 ReturnsInHanded {} Tryz.checked os 4 .any (Rows.rvemuCodeSpec.pre6 enc Tryz.prog Tryz.f4 Rows.rvemuCodeRow.domain false) (Rows.rvemuCodeSpec.post enc Tryz.prog Tryz.f4 false true false false) := by
 refine returnsInHanded_of_change_sized (C := Tryz.checked) own started (by kernel_rfl) Tryz.func4
  (ChangeSpec.witness6 (enc := enc) (C := Tryz.checked) false ⟨#[], #[.slice none 0 0, .agg #[.slice none 0 0, .slice none 0 0, .slice none 0 0, .slice none 0 0, .int .i64 0, .int .i64 0]], []⟩ 8 (by kernel_rfl) (by kernel_rfl) (by kernel_rfl) (by kernel_rfl)) ?_
 intro W base args ds gs before hval0 hW hcnd hsz0 _
 have hsz : (DataW.weightsEach Tryz.prog (Tryz.f4.params.toList ++ Rows.rvemuCodeSpec.plain.varTypes Tryz.prog) (ds ++ gs)).all (· ≤ reachBytes) = true := hsz0
 have hval : ∀ (j : Nat) t v, Tryz.f4.params[j]? = some t → args[j]? = some v → Value.okWide Tryz.prog W .any base t v := hval0
 have hW' := hW
 obtain ⟨p, q, hA0, hV, rfl, hfz, hnd⟩ := hW
 have hA : DataW.TrodAll enc Tryz.prog W 0 (fun _ => true) true Tryz.f4.params.toList args.toList ds p := hA0
 rw [Tryz.params4] at hA hval hsz
 obtain ⟨v0, vs0, d0, ds0, p0, q0, hargs, rfl, rfl, h0, r0⟩ := trodAll_cons hA
 obtain ⟨v1, vs1, d1, ds1, p1, q1, rfl, rfl, rfl, h1, r1⟩ := trodAll_cons r0
 obtain ⟨rfl, rfl, rfl⟩ := trodAll_nil r1
 obtain rfl : args = #[v0, v1] := by cases args; simp_all
 obtain ⟨rfl, rfl⟩ := trodVars_none hV
 have k0 := h0
 have lt0 : ∀ x ∈ p0, x.block < W.heap.size := by obtain ⟨m, hm⟩ := k0; exact DataW.trod_lt m _ _ _ hm
 have k1 := h1
 have lt1 : ∀ x ∈ p1, x.block < W.heap.size := by obtain ⟨m, hm⟩ := k1; exact DataW.trod_lt m _ _ _ hm
 refine (law (enc := enc) W v0 d0 p0 v1 d1 p1 h0 (hval 0 36 v0 rfl rfl) h1 (hval 1 25 v1 rfl rfl) hsz).mono fun e W' ⟨he, bel⟩ => ?_
 subst he
 exact ⟨_, rfl, _, _, _, [], _, [], hW', trodAll_mk1 (shut_bool Tryz.underlying4 _), (trodAll_cons_mk (Below.trod laidOut (by kernel_rfl) (of_decide_eq_true (by kernel_rfl)) k0 bel lt0) (trodAll_cons_mk (Below.trod laidOut (by kernel_rfl) (of_decide_eq_true (by kernel_rfl)) k1 bel lt1) trodAll_mk0)), rfl, bel.frame _, fun h => by cases h⟩
theorem over : Rows.rvemuCodeRow.holds Tryz.pinned (OpenSpec.ofChange Rows.rvemuCodeSpec) :=
 OpenClaim.holds_of_wide 4 Tryz.f4 rfl rfl rfl rfl rfl rfl rfl ⟨rfl, rfl, rfl, rfl, rfl⟩ rfl rfl rfl rfl rfl (by kernel_rfl) Tryz.func4 (by kernel_rfl)
  (of_decide_eq_true (by kernel_rfl)) (by unfold Func.isWrapper; first | (rw [if_pos (by decide +kernel)]; kernel_rfl) | (rw [if_neg (by decide +kernel)]; exact ⟨rfl, rfl⟩))
  (fun os started H enc _ => lifted os started H enc)
end Go.Proofs.YtcgkgaibomcheaaGreat.rvemuCode
namespace Go.Proofs.YtcgkgaibomcheaaGreat
theorem rvemuCode_holds : Rows.RvemuCodeSaid := rvemuCode.over
end Go.Proofs.YtcgkgaibomcheaaGreat
end
