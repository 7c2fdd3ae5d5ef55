/- Joined texts: RunsL, RowRvemuRuns. Conditions: those of each theorem. -/
import Derived.Test.YtcgkgaibomcheaaGreatZC01
import Derived.Test.YtcgkgaibomcheaaGreatZC21
import Derived.Test.YtcgkgaibomcheaaGreatZC22
import Derived.Test.YtcgkgaibomcheaaGreatRows
import Derived.Test.YtcgkgaibomcheaaGreatZC20
import Derived.WalkKit
import Derived.ProofKit
import Derived.OpenShut
import Derived.ShutString
import Derived.ChangeOld
import Derived.Below
import Derived.SizedLaws
import Derived.Lib.SmallJoins
import Derived.Deep.Slices
import Derived.Deep.Fields
import Derived.ChangeSame
import Derived.Test.YtcgkgaibomcheaaGreatZC12
import Derived.Test.YtcgkgaibomcheaaGreatZC18
import Derived.Test.YtcgkgaibomcheaaGreatZC16
set_option linter.unusedVariables false
set_option linter.unusedSimpArgs false
section
namespace Go.Proofs.YtcgkgaibomcheaaGreat.RunsL
open Go.RowKit Bits Mac Mb Rd RDec EM EOut NewM Go.Proofs.YtcgkgaibomcheaaGreat.Pure Goes Fit EndsL SameH KeptH PRvemuRuns YtcgkgaibomcheaaGreatW.PrintWords YtcgkgaibomcheaaGreatW.PrintLast YtcgkgaibomcheaaGreatW.PrintMore
theorem C_pre {α : Type} {d : Kd α} {e base c : Nat} {ok : Nat → Prop} {w : World} {A : Option Addr} {xs : List α} {p : α} (h : d.R e w base ok (.slice A (xs.length + 1) c) (xs ++ [p])) : d.C w A xs.length xs ∧ xs.length ≤ c := by
 obtain ⟨h1, h2, h3⟩ := Kd.R_reads' h
 refine ⟨⟨rfl, by have := h3.2.1; rw [List.length_append, List.length_singleton] at this; omega, fun hp => ?_⟩, by omega⟩
 obtain ⟨ad, ea, hc⟩ := h3.2.2 (by rw [List.length_append, List.length_singleton]; omega)
 refine ⟨ad, ea, fun j q hj => hc j q ?_⟩
 rw [List.getElem?_append_left (List.getElem?_eq_some_iff.1 hj).1]
 exact hj
theorem tr_len {lc ld lr ls : List Int} {fr fu : Int} {m : Mac} (hm : m = runM (newM lc ld lr ls fr fu)) (hfu : fu ≤ 1000000) : m.tr.length ≤ 1000000 := by
 have h := inv_it (inv_new lc ld lr ls fr fu) ((newM lc ld lr ls fr fu).fuel.toNat + 1)
 have e : it ((newM lc ld lr ls fr fu).fuel.toNat + 1) (newM lc ld lr ls fr fu) = m := hm.symm
 rw [e] at h
 have hst := h.steps
 have hmx := h.max
 have hfl := h.fuel
 have htr := h.tr
 rw [new_fuel] at hfl
 omega
set_option maxRecDepth 20000 in
set_option maxHeartbeats 2000000 in
theorem walk (cA dA rA sA : Option Addr) (cc dc rc sc : Nat) (lc ld ls lr : List Int) (fr fu : Int) (w : World) (h : EnvAt w cA dA rA sA cc dc rc sc lc ld ls lr)
 (hlc : lc.length + 1 ≤ 140737488355328) (hld : ld.length + 1 ≤ 140737488355328) (hls : ls.length + 1 ≤ 140737488355328) (hlr : (lr.length + 1) * 8 ≤ 140737488355328) :
 Calls Tryz.prog 3 #[.agg #[.slice cA lc.length cc, .slice dA ld.length dc, .slice rA lr.length rc, .slice sA ls.length sc, .int .i64 fr, .int .i64 fu]] w fun e w' => e = .returned (.bool true) ∧ Below w.heap.size w w' := by
 have hbA := below_alloc (Below.refl w.heap.size w) (.cells #[.slice cA lc.length cc, .slice dA ld.length dc, .slice rA lr.length rc, .slice sA ls.length sc, .int .i64 fr, .int .i64 fu] 25)
 have HA := Aside0.mk (blk_new w (.cells #[.slice cA lc.length cc, .slice dA ld.length dc, .slice rA lr.length rc, .slice sA ls.length sc, .int .i64 fr, .int .i64 fu] 25))
 have HE := Aside0.mk h
 have HB := Aside0.mk hbA
 have HLC := Aside0.mk hlc
 have HLD := Aside0.mk hld
 have HLS := Aside0.mk hls
 have HLR := Aside0.mk hlr
 clear h hbA hlc hld hls hlr
 go_enter Tryz.func3, Tryz.ntmps3
 go_wp2_with fail
 refine (Head.head _).mono ?_
 rintro e w1 ⟨rfl, hb1⟩
 have HA1 := Aside0.mk (blk_below HA.out hb1)
 have HB1 := Aside0.mk (below_step HB.out hb1)
 have z0 := blk_cell HA1.out 0
 have z1 := blk_cell HA1.out 1
 have z2 := blk_cell HA1.out 2
 have z3 := blk_cell HA1.out 3
 have z4 := blk_cell HA1.out 4
 have z5 := blk_cell HA1.out 5
 simp only [List.getElem?_toArray, List.getElem?_cons_zero, List.getElem?_cons_succ] at z0 z1 z2 z3 z4 z5
 clear hb1 HA HB
 go_wp2_with fail
 refine (Fit.fit cA dA rA sA cc dc rc sc _ _ _ _ fr fu _).mono ?_
 rintro e w8 ⟨rfl, hb8⟩
 have HB8 := Aside0.mk (below_step HB1.out hb8)
 have HF := Aside0.mk (fitFu_le fu)
 generalize fitFr fr = fr2 at *
 generalize fitFu fu = fu2 at *
 clear hb8 z0 z1 z2 z3 z4 z5 HA1 HB1
 have HLENT := Aside0.mk (show ∀ W, Below w.heap.size w W → _ from fun W hb => Lent.lent cA dA rA sA cc dc rc sc lc ld ls lr fr2 fu2 W (HE.out.below hb) HLC.out HLD.out HLS.out HLR.out)
 go_wp2_with fail
 refine (HLENT.out _ (below_alloc HB8.out _)).mono ?_
 rintro e wl ⟨Ac, Ad, Ar, As, kc, kd, kr, ks, b1, rfl, hRc, hRd, _, _, hRr, hRs, hbl⟩
 have HBL := Aside0.mk (below_step (below_alloc HB8.out _) hbl)
 have HEL := Aside0.mk (blk_below (blk_new w8 (.cells #[.slice cA lc.length cc, .slice dA ld.length dc, .slice rA lr.length rc, .slice sA ls.length sc, .int .i64 fr2, .int .i64 fu2] 25)) hbl)
 have hbx := below_alloc (Below.refl wl.heap.size wl) (.cells #[.slice Ac lc.length kc, .slice Ad ld.length kd, .slice Ar lr.length kr, .slice As ls.length ks, .int .i64 fr2, .int .i64 fu2] 25)
 have HBX := Aside0.mk (below_step HBL.out hbx)
 have HEX := Aside0.mk (blk_below HEL.out hbx)
 have HXX := Aside0.mk (blk_new wl (.cells #[.slice Ac lc.length kc, .slice Ad ld.length kd, .slice Ar lr.length kr, .slice As ls.length ks, .int .i64 fr2, .int .i64 fu2] 25))
 have HPc := Aside0.mk (C_pre (Kd.R_below hRc hbx))
 have HPd := Aside0.mk (C_pre (Kd.R_below hRd hbx))
 have HPr := Aside0.mk (C_pre (Kd.R_below hRr hbx))
 have HPs := Aside0.mk (C_pre (Kd.R_below hRs hbx))
 clear hbl hbx hRc hRd hRr hRs HLENT
 obtain ⟨ge, hge⟩ : ∃ ge, w8.heap.size = ge := ⟨_, rfl⟩
 rw [hge] at HEL HEX
 go_wp2_with fail
 generalize wl.alloc (.cells #[.slice Ac lc.length kc, .slice Ad ld.length kd, .slice Ar lr.length kr, .slice As ls.length ks, .int .i64 fr2, .int .i64 fu2] 25) = Wx at *
 generalize wl.heap.size = gx at *
 refine (ERun.runs Ac Ad Ar As kc kd kr ks lc ld ls lr fr2 fu2 _ HPc.out.1 (by have := HLC.out; omega) HPd.out.1 HPr.out.1 HPs.out.1 HE.out.bc HE.out.bd HE.out.bs HE.out.wr HF.out).mono ?_
 rintro e w11 ⟨m, vr, vt, hm, rfl, hr, ht, hb11⟩
 obtain ⟨Br, cr, ear⟩ := Kd.R_slice hr
 obtain ⟨Bt, ct, eat⟩ := Kd.R_slice ht
 subst ear eat
 have HM := Aside0.mk hm
 have hbo := below_alloc (Below.refl w11.heap.size w11) (.cells #[.int .i64 m.err, .int .i64 (atOf m), .int .i64 m.steps, .slice Br (regsOf m).length cr, .slice Bt m.tr.length ct] 31)
 have hbX := below_step hb11 hbo
 have HBO := Aside0.mk (below_step HBX.out hbX)
 have HEO := Aside0.mk (blk_below HEX.out hbX)
 have HXO := Aside0.mk (blk_below HXX.out hbX)
 have HOO := Aside0.mk (blk_new w11 (.cells #[.int .i64 m.err, .int .i64 (atOf m), .int .i64 m.steps, .slice Br (regsOf m).length cr, .slice Bt m.tr.length ct] 31))
 have HRR := Aside0.mk (Kd.R_below hr hbo)
 have HRT := Aside0.mk (Kd.R_below ht hbo)
 have HQc := Aside0.mk (Kd.C_below HPc.out.1 hbX)
 have HQd := Aside0.mk (Kd.C_below HPd.out.1 hbX)
 have HQr := Aside0.mk (Kd.C_below HPr.out.1 hbX)
 have HQs := Aside0.mk (Kd.C_below HPs.out.1 hbX)
 have HTL := Aside0.mk (tr_len HM.out HF.out)
 clear hr ht hm hbo hbX hb11 HEX HXX HBX HB8 HBL HEL
 go_wp2_with fail
 generalize w11.alloc (.cells #[.int .i64 m.err, .int .i64 (atOf m), .int .i64 m.steps, .slice Br (regsOf m).length cr, .slice Bt m.tr.length ct] 31) = W0 at *
 generalize w11.heap.size = go at *
 have y0 := blk_cell HOO.out 0
 have y1 := blk_cell HOO.out 1
 have y2 := blk_cell HOO.out 2
 have y3 := blk_cell HOO.out 3
 have y4 := blk_cell HOO.out 4
 simp only [List.getElem?_toArray, List.getElem?_cons_zero, List.getElem?_cons_succ] at y0 y1 y2 y3 y4
 have z0 := blk_cell HEO.out 0
 have z1 := blk_cell HEO.out 1
 have z2 := blk_cell HEO.out 2
 have z3 := blk_cell HEO.out 3
 have z4 := blk_cell HEO.out 4
 have z5 := blk_cell HEO.out 5
 simp only [List.getElem?_toArray, List.getElem?_cons_zero, List.getElem?_cons_succ] at z0 z1 z2 z3 z4 z5
 have HRUN := Aside0.mk (show ∀ W, Below W0.heap.size W0 W → _ from fun W hb => RRun.runs cA dA rA sA cc dc rc sc lc ld ls lr fr2 fu2 W (HE.out.below (below_step HBO.out hb)).hc HE.out.hcc (by have := HLC.out; omega) (HE.out.below (below_step HBO.out hb)).hd HE.out.hdc (HE.out.below (below_step HBO.out hb)).hr (HE.out.below (below_step HBO.out hb)).hs HE.out.hsc HE.out.bc HE.out.bd HE.out.bs HE.out.wr HF.out)
 have HSAME := Aside0.mk (show ∀ (Br2 : Option Addr) (cr2 : Nat) (Bt2 : Option Addr) (ct2 : Nat) (W : World), Below W0.heap.size W0 W → ((regsOf m).length = (regsOf m).length ∧ (regsOf m).length ≤ cr2 ∧ (Kd.int .u64).C W Br2 (regsOf m).length (regsOf m)) → (m.tr.length = m.tr.length ∧ m.tr.length ≤ ct2 ∧ k54.C W Bt2 m.tr.length m.tr) → Calls Tryz.prog 14 #[.agg #[.int .i64 m.err, .int .i64 (atOf m), .int .i64 m.steps, .slice Br (regsOf m).length cr, .slice Bt m.tr.length ct], .agg #[.int .i64 m.err, .int .i64 (atOf m), .int .i64 m.steps, .slice Br2 (regsOf m).length cr2, .slice Bt2 m.tr.length ct2]] W fun e w' => e = .returned (.bool true) ∧ Below W.heap.size W w' from fun Br2 cr2 Bt2 ct2 W hb h1 h2 =>
  same_yes m.err (atOf m) m.steps Br Br2 Bt Bt2 cr cr2 ct ct2 (regsOf m) m.tr W (Kd.C_below (Kd.R_reads' HRR.out).2.2 hb) h1.2.2 (Kd.C_below (Kd.R_reads' HRT.out).2.2 hb) h2.2.2 (by rw [regs_len]; omega) HTL.out)
 have hu31 := Tryz.underlying31
 have hu25 := Tryz.underlying25
 have L := below_drew1 (Below.refl W0.heap.size W0)
 refine start_ (n := 5) (S := fun w' => w'.cell? ⟨go, 0, none⟩ = some (.int .i64 m.err) ∧ w'.cell? ⟨go, 1, none⟩ = some (.int .i64 (atOf m)) ∧ w'.cell? ⟨go, 2, none⟩ = some (.int .i64 m.steps) ∧ w'.cell? ⟨go, 3, none⟩ = some (.slice Br (regsOf m).length cr) ∧ w'.cell? ⟨go, 4, none⟩ = some (.slice Bt m.tr.length ct) ∧ w'.cell? ⟨ge, 0, none⟩ = some (.slice cA lc.length cc) ∧ w'.cell? ⟨ge, 1, none⟩ = some (.slice dA ld.length dc) ∧ w'.cell? ⟨ge, 2, none⟩ = some (.slice rA lr.length rc) ∧ w'.cell? ⟨ge, 3, none⟩ = some (.slice sA ls.length sc) ∧ w'.cell? ⟨ge, 4, none⟩ = some (.int .i64 fr2) ∧ w'.cell? ⟨ge, 5, none⟩ = some (.int .i64 fu2)) (ds := []) #[vF,vF,vF,vF,vF] (by kernel_rfl) rfl rfl ⟨kB L y0, kB L y1, kB L y2, kB L y3, kB L y4, kB L z0, kB L z1, kB L z2, kB L z3, kB L z4, kB L z5⟩ (fun hHeld => ?_)
 refine take_ (i := 0) (N := some 16) (v := ?_) (a' := ?_) #[vT,vF,vF,vF,vF] rfl rfl (by kernel_rfl) (fun _ _ _ h => h) (Or.inl ⟨by rfl, ?_⟩) hHeld ?_ ?_
 rotate_left
 · rintro w' ⟨s0, s1, s2, s3, s4, s5, s6, s7, s8, s9, s10⟩; go_simp; with_reducible rfl
 rotate_left
 · simp only [Act.put, List.setIfInBounds_toArray, List.set, i64_w, i32_w]
   rfl
 refine take_ (i := 1) (N := some 17) (v := ?_) (a' := ?_) #[vT,vT,vF,vF,vF] rfl rfl (by kernel_rfl) (fun _ _ _ h => h) (Or.inl ⟨by rfl, ?_⟩) hHeld ?_ ?_
 rotate_left
 · rintro w' ⟨s0, s1, s2, s3, s4, s5, s6, s7, s8, s9, s10⟩; go_simp; with_reducible rfl
 rotate_left
 · simp only [Act.put, List.setIfInBounds_toArray, List.set, i64_w, i32_w]
   rfl
 refine one_ (i := 2) (N := some 18) #[vT,vT,vT,vF,vF] rfl rfl (by kernel_rfl) (by decide) (fun K hK => ?_)
 refine goes_ Tryz.func15 (by kernel_rfl) rfl #[.agg #[.slice cA lc.length cc, .slice dA ld.length dc, .slice rA lr.length rc, .slice sA ls.length sc, .int .i64 fr2, .int .i64 fu2]] (by rfl) rfl rfl (by simp only [List.map_toArray, List.map_cons, List.map_nil]; rfl) ?_
 with_reducible refine (HRUN.out _ L).mono ?_
 rintro e w13 ⟨m2, vr2, vt2, hm2, rfl, hr2, ht2, _, hb13⟩
 refine ⟨_, rfl, ?_⟩
 have L := below_step L hb13
 obtain ⟨Br2, cr2, ear2⟩ := Kd.R_slice hr2
 obtain ⟨Bt2, ct2, eat2⟩ := Kd.R_slice ht2
 subst ear2 eat2
 have em := HM.out.trans hm2.symm
 subst em
 have HVR2 := Aside0.mk (Kd.R_reads' hr2)
 have HVT2 := Aside0.mk (Kd.R_reads' ht2)
 clear hr2 ht2 hm2 hb13
 refine hK.out _ _ ⟨kB L y0, kB L y1, kB L y2, kB L y3, kB L y4, kB L z0, kB L z1, kB L z2, kB L z3, kB L z4, kB L z5⟩ (fun hHeld => ?_)
 clear hK K
 refine norm_ (a' := ?_) ?_ ?_
 rotate_left
 · show Act.put _ (some 18) _ = _; simp only [Act.put, List.setIfInBounds_toArray, List.set, i64_w, i32_w]; rfl
 refine one_ (i := 3) (N := some 19) #[vT,vT,vT,vT,vF] rfl rfl (by kernel_rfl) (by decide) (fun K hK => ?_)
 refine goes_ Tryz.func14 (by kernel_rfl) rfl #[.agg #[.int .i64 m.err, .int .i64 (atOf m), .int .i64 m.steps, .slice Br (regsOf m).length cr, .slice Bt m.tr.length ct], .agg #[.int .i64 m.err, .int .i64 (atOf m), .int .i64 m.steps, .slice Br2 (regsOf m).length cr2, .slice Bt2 m.tr.length ct2]] (by rfl) rfl rfl (by simp only [List.map_toArray, List.map_cons, List.map_nil]; rfl) ?_
 with_reducible refine (HSAME.out Br2 cr2 Bt2 ct2 _ L HVR2.out HVT2.out).mono ?_
 rintro e w14 ⟨rfl, hb14⟩
 refine ⟨_, rfl, ?_⟩
 have L := below_step L hb14
 refine hK.out _ _ ⟨kB L y0, kB L y1, kB L y2, kB L y3, kB L y4, kB L z0, kB L z1, kB L z2, kB L z3, kB L z4, kB L z5⟩ (fun hHeld => ?_)
 clear hK K
 refine norm_ (a' := ?_) ?_ ?_
 rotate_left
 · show Act.put _ (some 19) _ = _; simp only [Act.put, List.setIfInBounds_toArray, List.set, i64_w, i32_w]; rfl
 refine pure_ (i := 4) (N := some 7) (v := ?_) (a' := ?_) #[vT,vT,vT,vT,vT] rfl rfl (by kernel_rfl) (fun _ _ _ h => h) (Or.inl ⟨by rfl, ?_⟩) ?_ ?_
 rotate_left
 · intro w'; go_simp; with_reducible rfl
 rotate_left
 · simp only [Act.put, List.setIfInBounds_toArray, List.set, i64_w, i32_w]
   rfl
 refine done_ (by kernel_rfl) ?_
 have HXL := Aside0.mk (blk_below HXO.out L)
 have HEL := Aside0.mk (blk_below HEO.out L)
 have HBZ := Aside0.mk (below_step HBO.out L)
 have x0 := blk_cell HXL.out 0
 have x1 := blk_cell HXL.out 1
 have x2 := blk_cell HXL.out 2
 have x3 := blk_cell HXL.out 3
 have x4 := blk_cell HXL.out 4
 have x5 := blk_cell HXL.out 5
 simp only [List.getElem?_toArray, List.getElem?_cons_zero, List.getElem?_cons_succ] at x0 x1 x2 x3 x4 x5
 have u0 := blk_cell HEL.out 0
 have u1 := blk_cell HEL.out 1
 have u2 := blk_cell HEL.out 2
 have u3 := blk_cell HEL.out 3
 have u4 := blk_cell HEL.out 4
 have u5 := blk_cell HEL.out 5
 simp only [List.getElem?_toArray, List.getElem?_cons_zero, List.getElem?_cons_succ] at u0 u1 u2 u3 u4 u5
 have eZ := HE.out.below HBZ.out
 have HKEPT := Aside0.mk (kept_yes Ac Ad Ar As cA dA rA sA kc kd kr ks cc dc rc sc lc ld lr ls fr2 fu2 _ (Kd.C_below HQc.out L) (Kd.C_below HQd.out L) (Kd.C_below HQr.out L) (Kd.C_below HQs.out L) eZ.hc eZ.hd eZ.hr eZ.hs (by have := HLR.out; omega))
 clear hHeld L eZ y0 y1 y2 y3 y4 z0 z1 z2 z3 z4 z5
 go_wp2_with fail
 refine HKEPT.out.mono ?_
 rintro e w15 ⟨rfl, hb15⟩
 have HBF := Aside0.mk (below_step HBZ.out hb15)
 clear hb15
 go_wp2_with fail
 go_ret
 exact ⟨rfl, HBF.out⟩
end Go.Proofs.YtcgkgaibomcheaaGreat.RunsL
end
section
namespace Go.Proofs.YtcgkgaibomcheaaGreat.rvemuRuns
open Go.ChangeShapes Go.WideShapes Go.ChangeAt Go.RowKit Go.Deep Go.Joins
open Go.ChangeMaps (open_string shut_string)
theorem own : ownKnob Tryz.prog.godebug = none := by kernel_rfl
theorem laidOut : laidOutB Tryz.prog = true := by kernel_rfl
set_option maxRecDepth 100000 in
theorem law {H : Type} {enc : TypeId × Value → H} (W : World) (v0 : Value) (d0 : DataW H) (p0 : List MemPlace) (h0 : DataW.Trod enc Tryz.prog W 0 (fun _ => true) true 25 v0 d0 p0) (o0 : Value.okWide Tryz.prog W .any 0 25 v0) (hsz : (DataW.weightsEach Tryz.prog [25] [d0]).all (· ≤ reachBytes) = true) :
 Calls Tryz.prog 3 #[v0] W fun e w' => e = .returned (.bool true) ∧ Below W.heap.size W w' := by
 have hw : (d0.weights Tryz.prog 25).all (· ≤ reachBytes) = true := by
  simpa [DataW.weightsEach] using hsz
 obtain ⟨cA, dA, rA, sA, cc, dc, rc, sc, lc, ld, ls, lr, fr, fu, rfl, he, b1, b2, b3, b4, _, _⟩ := OpenEnv.open_env o0 h0 hw
 have hrb : reachBytes = 140737488351232 := rfl
 have q1 := he.hcc
 have q2 := he.hdc
 have q3 := he.hrc
 have q4 := he.hsc
 exact RunsL.walk cA dA rA sA cc dc rc sc lc ld ls lr fr fu W he (by omega) (by omega) (by omega) (by omega)
set_option maxRecDepth 100000 in
theorem lifted (os : Os) (started : os.Started) (H : Type) (enc : TypeId × Value → H) :
 ReturnsInHanded {} Tryz.checked os 3 .any (Rows.rvemuRunsSpec.pre6 enc Tryz.prog Tryz.f3 Rows.rvemuRunsRow.domain false) (Rows.rvemuRunsSpec.post enc Tryz.prog Tryz.f3 false true false false) := by
 refine returnsInHanded_of_change_sized (C := Tryz.checked) own started (by kernel_rfl) Tryz.func3
  (ChangeSpec.witness6 (enc := enc) (C := Tryz.checked) false ⟨#[], #[.agg #[.slice none 0 0, .slice none 0 0, .slice none 0 0, .slice none 0 0, .int .i64 0, .int .i64 0]], []⟩ 8 (by kernel_rfl) (by kernel_rfl) (by kernel_rfl) (by kernel_rfl)) ?_
 intro W base args ds gs before hval0 hW hcnd hsz0 _
 have hsz : (DataW.weightsEach Tryz.prog (Tryz.f3.params.toList ++ Rows.rvemuRunsSpec.plain.varTypes Tryz.prog) (ds ++ gs)).all (· ≤ reachBytes) = true := hsz0
 have hval : ∀ (j : Nat) t v, Tryz.f3.params[j]? = some t → args[j]? = some v → Value.okWide Tryz.prog W .any base t v := hval0
 have hW' := hW
 obtain ⟨p, q, hA0, hV, rfl, hfz, hnd⟩ := hW
 have hA : DataW.TrodAll enc Tryz.prog W 0 (fun _ => true) true Tryz.f3.params.toList args.toList ds p := hA0
 rw [Tryz.params3] at hA hval hsz
 obtain ⟨v0, vs0, d0, ds0, p0, q0, hargs, rfl, rfl, h0, r0⟩ := trodAll_cons hA
 obtain ⟨rfl, rfl, rfl⟩ := trodAll_nil r0
 obtain rfl : args = #[v0] := by cases args; simp_all
 obtain ⟨rfl, rfl⟩ := trodVars_none hV
 have k0 := h0
 have lt0 : ∀ x ∈ p0, x.block < W.heap.size := by obtain ⟨m, hm⟩ := k0; exact DataW.trod_lt m _ _ _ hm
 refine (law (enc := enc) W v0 d0 p0 h0 (hval 0 25 v0 rfl rfl) hsz).mono fun e W' ⟨he, bel⟩ => ?_
 subst he
 exact ⟨_, rfl, _, _, _, [], _, [], hW', trodAll_mk1 (shut_bool Tryz.underlying4 _), (trodAll_cons_mk (Below.trod laidOut (by kernel_rfl) (of_decide_eq_true (by kernel_rfl)) k0 bel lt0) trodAll_mk0), rfl, bel.frame _, fun h => by cases h⟩
theorem over : Rows.rvemuRunsRow.holds Tryz.pinned (OpenSpec.ofChange Rows.rvemuRunsSpec) :=
 OpenClaim.holds_of_wide 3 Tryz.f3 rfl rfl rfl rfl rfl rfl rfl ⟨rfl, rfl, rfl, rfl, rfl⟩ rfl rfl rfl rfl rfl (by kernel_rfl) Tryz.func3 (by kernel_rfl)
  (of_decide_eq_true (by kernel_rfl)) (by unfold Func.isWrapper; first | (rw [if_pos (by decide +kernel)]; kernel_rfl) | (rw [if_neg (by decide +kernel)]; exact ⟨rfl, rfl⟩))
  (fun os started H enc _ => lifted os started H enc)
end Go.Proofs.YtcgkgaibomcheaaGreat.rvemuRuns
namespace Go.Proofs.YtcgkgaibomcheaaGreat
theorem rvemuRuns_holds : Rows.RvemuRunsSaid := rvemuRuns.over
end Go.Proofs.YtcgkgaibomcheaaGreat
end
