/- Joined out of this claim's texts: MoreL, RowRvemuMore, QuietP, QuietL, RowRvemuQuiet, TopB. Conditions: those of each theorem. -/
import Derived.Test.YtcgkgaibomcheaaGreatZB15
import Derived.Test.YtcgkgaibomcheaaGreatZB16
import Derived.Test.YtcgkgaibomcheaaGreatRows
import Derived.Test.YtcgkgaibomcheaaGreatZB14
import Derived.WalkKit
import Derived.ProofKit
import Derived.OpenShut
import Derived.ShutString
import Derived.ChangeOld
import Derived.Below
import Derived.SizedLaws
import Derived.Lib.SmallJoins
import Derived.Deep.Slices
import Derived.Deep.Fields
import Derived.ChangeSame
section
/- The law RvemuMore. Conditions: the list and the entry can be read. -/
namespace Go.Proofs.YtcgkgaibomcheaaGreat.MoreL
open Go.RowKit Go.Proofs.YtcgkgaibomcheaaGreat.Bits Go.Proofs.YtcgkgaibomcheaaGreat.Mac Go.Proofs.YtcgkgaibomcheaaGreat.Mb Go.Proofs.YtcgkgaibomcheaaGreat.Rd Go.Proofs.YtcgkgaibomcheaaGreat.RDec Go.Proofs.YtcgkgaibomcheaaGreat.EM Go.Proofs.YtcgkgaibomcheaaGreat.EOut Go.Proofs.YtcgkgaibomcheaaGreat.NewM Go.Proofs.YtcgkgaibomcheaaGreat.Pure Go.Proofs.YtcgkgaibomcheaaGreat.Goes Go.Proofs.YtcgkgaibomcheaaGreat.Fit Go.Proofs.YtcgkgaibomcheaaGreat.FineP Go.Proofs.YtcgkgaibomcheaaGreat.AccessL Go.Proofs.YtcgkgaibomcheaaGreat.SameP Go.Proofs.YtcgkgaibomcheaaGreat.Conf Go.Proofs.YtcgkgaibomcheaaGreat.EndsL Go.Proofs.YtcgkgaibomcheaaGreat.PRvemuRuns Go.Proofs.YtcgkgaibomcheaaGreatW.PrintWords Go.Proofs.YtcgkgaibomcheaaGreatW.PrintLast Go.Proofs.YtcgkgaibomcheaaGreatW.PrintMore
attribute [local go_sem] max2_int min2_int max_two min_two
set_option linter.unusedVariables false
set_option linter.unusedSimpArgs false
theorem fit_lo {fu : Int} (h : -9223372036854775808 ≤ fu) : -9223372036854775808 ≤ fitFu fu ∧ fitFu fu ≤ 2000 := by unfold fitFu; split <;> omega
theorem tm_lt {more : Int} (h : 0 ≤ more) : 0 ≤ Int.tmod more 1000 ∧ Int.tmod more 1000 < 1000 := by
  rw [Int.tmod_eq_emod_of_nonneg h]
  omega
theorem tr_len {lc ld lr ls : List Int} {fr fu : Int} {m : Mac} (hm : m = runM (newM lc ld lr ls fr fu)) (hfu : fu ≤ 1000000) : m.tr.length ≤ 1000000 := (acc lc ld lr ls fr fu hm hfu).2.2
set_option maxRecDepth 20000 in
set_option maxHeartbeats 1000000 in
theorem walk (lA : Option Addr) (c0 : Nat) (l : List S42) (w : World) (hl : k42.C w lA l.length l) (hlc : l.length ≤ c0) (hl40 : l.length * 40 ≤ 140737488355328) (cA dA rA sA : Option Addr) (cc dc rc sc : Nat) (lc ld ls lr : List Int) (fr fu : Int) (more : Int) (hfu : -9223372036854775808 ≤ fu) (h : EnvAt w cA dA rA sA cc dc rc sc lc ld ls lr) :
    Calls Tryz.prog 9 #[.slice lA l.length c0, .agg #[.slice cA lc.length cc, .slice dA ld.length dc, .slice rA lr.length rc, .slice sA ls.length sc, .int .i64 fr, .int .i64 fu], .int .i64 more] w fun e w' => e = .returned (.bool true) ∧ Below w.heap.size w w' := by
  have hbA := below_alloc (Below.refl w.heap.size w) (.cells #[.slice cA lc.length cc, .slice dA ld.length dc, .slice rA lr.length rc, .slice sA ls.length sc, .int .i64 fr, .int .i64 fu] 25)
  have HA := Aside0.mk (blk_new w (.cells #[.slice cA lc.length cc, .slice dA ld.length dc, .slice rA lr.length rc, .slice sA ls.length sc, .int .i64 fr, .int .i64 fu] 25))
  have hu42 := Tryz.underlying42
  have HE := Aside0.mk h
  have HB := Aside0.mk hbA
  have HL := Aside0.mk hl
  have HLC := Aside0.mk hlc
  have HL40 := Aside0.mk hl40
  have HFU := Aside0.mk hfu
  clear hfu h hbA hl hlc hl40
  go_enter Tryz.func9, Tryz.ntmps9
  go_wp2_with fail
  refine (Head.head _).mono ?_
  rintro e w1 ⟨rfl, hb1⟩
  have HA1 := Aside0.mk (blk_below HA.out hb1)
  have HB1 := Aside0.mk (below_step HB.out hb1)
  clear hb1 HA HB
  go_wp2_with fail
  go_loopw [8, 9] (fun v6 v7 W => ∃ (i : Nat) (Af : Option Addr) (n cf : Nat), v7 = .int .i64 (i : Int) ∧ i ≤ l.length ∧ v6 = .slice Af n cf ∧ Aside0 (Kd.R k42 42 W w1.heap.size (fun _ => True) (.slice Af n cf) ((l.take i).filter okV)) ∧ Aside0 (Below w1.heap.size w1 W)) (fun v6 v7 _ => l.length - (intOf v7).toNat)
  case atStart => exact ⟨0, none, 0, 0, rfl, by omega, rfl, ⟨Kd.R_nil _ _ _ _ _⟩, ⟨Below.refl _ _⟩⟩
  case round =>
    obtain ⟨i, Af, n, cf, rfl, hi, rfl, HRF, HBW⟩ := hrel
    by_cases hlt : i < l.length
    · have t1 : decide ((i : Int) < (l.length : Int)) = true := decide_eq_true (by omega)
      have u1 : ((i : Int) < (l.length : Int)) = True := eq_true (by omega)
      have u2 : (0 ≤ (i : Int)) = True := eq_true (by omega)
      have HI := Aside0.mk hlt
      have HBL := Aside0.mk (below_step HB1.out HBW.out)
      obtain ⟨ad, rfl, x0, x1, x2, x3, x4⟩ := at_T42 (Kd.C_below HL.out HBL.out) (i : Int) (by omega) (by omega)
      simp only [Int.toNat_natCast] at x0 x1 x2 x3 x4
      clear hlt
      go_wp2_with fail
      refine (ravelinref15_Encode.calls 100 _ _ _ _ _ _ _ _ (enc_all 100 (by omega) (rd_T42 l (i : Int)))).mono ?_
      rintro e w5 ⟨rfl, hb5⟩
      have HRF5 := Aside0.mk (Kd.R_below HRF.out hb5)
      have HBW5 := Aside0.mk (below_step HBW.out hb5)
      replace x0 := kB hb5 x0
      replace x1 := kB hb5 x1
      replace x2 := kB hb5 x2
      replace x3 := kB hb5 x3
      replace x4 := kB hb5 x4
      clear hb5 HRF HBW
      by_cases hok : okV (rd_T42 l (i : Int)) = true
      · have e0 := okV_eq hok
        have c5b0 : ((encV (rd_T42 l (i : Int))).2 == 0) = true := beq_iff_eq.mpr e0
        have HN := Aside0.mk (take_yes l i HI.out hok)
        have HLN := Aside0.mk (show ((l.take i).filter okV).length ≤ i from by
          have := List.length_filter_le okV (l.take i)
          rw [List.length_take] at this
          omega)
        clear e0 hok
        generalize encV (rd_T42 l (i : Int)) = ev at *
        generalize rd_T42 l (i : Int) = xv at *
        go_wp2_with (first | ((with_reducible refine gate_dst (N := 36) rfl ?_); go_loud (refine Kd.R_lit k42 _ 42 ?hg (N := 36) ?hd (xs := [xv]) (inner := [.int .i64 xv.f0, .int .i64 xv.f1, .int .i64 xv.f2, .int .i64 xv.f3, .int .i64 xv.f4]) (ok := fun _ => True) (okp := fun _ => True) ?hr ?hp (fun _ hk => hk) trivial (Below.refl _ _) (Nat.le_refl _) (by simp) ?_); (case hd => rfl); (case hg => rfl); (case hr => go_loud (first | (go_simp; done) | (go_simp; rfl))); (case hp => go_loud (exact (Reps.snoc (Reps.none _ _) (k42_mkM _ _ _ xv) rfl))); intro v35 w6 ho6 hb6 hg6_ hn6_; clear hg6_ hn6_; go_loud (have HF6 := Aside0.mk (Kd.R_elder' HRF5.out (Kd.R_base ho6) hb6)); go_loud (have HO6 := Aside0.mk (Kd.R_lower (Kd.R_new' ho6 (Kd.R_lt HRF5.out)) (below_size HBW5.out))); go_loud (have HBW6 := Aside0.mk (below_step HBW5.out hb6)); clear hb6 ho6 HRF5 HBW5; obtain ⟨Ao6, co6, eo6⟩ := Kd.R_slice HO6.out; subst eo6) | ((with_reducible refine gate_builtin (b := .append) (xs := #[.tmp 31, .tmp 36]) rfl ?_); at_builtin; go_loud (refine Kd.R_append_rows k42 (w0 := w1) w1.heap.size rfl (.tmp 31) (.tmp 36) 36 42 (.agg #[.int .i64 0, .int .i64 0, .int .i64 0, .int .i64 0, .int .i64 0]) 40 rfl Tryz.underlying36 inf42 rfl (by decide) (by omega) _ ((l.take i).filter okV) [xv] _ _ _ (fun k_ => some k_ ≠ (.slice Ao6 ([xv] : List S42).length co6 : Value).ownBlock) (fun _ => False) rfl rfl ?aO ?aR (fun _ _ h => h) (fun _ h => h.elim) ?aF ?aB ?aS ?aL ?_); (case aR => exact (Kd.R_reads' HO6.out).2.2); (case aB => exact HBW6.out); (case aF => exact (fun k_ hk => Kd.fresh' (Kd.R_lt HO6.out) k_ hk)); (case aO => exact Kd.R_mono HF6.out (fun _ hk => hk.2)); (case aS => exact below_size HBW6.out); (case aL => have h1 := HLN.out; have h2 := HI.out; have h3 := HL40.out; simp only [List.length_singleton]; omega); intro v36 w7 ho7 hb7 hg7 hat7; rw [← HN.out] at ho7; have HO7 := Aside0.mk ho7; have HB7 := Aside0.mk hb7; clear ho7 hb7 hg7 hat7))
        obtain ⟨A7, c7, e7⟩ := Kd.R_slice HO7.out
        subst e7
        have hi3 := HI.out
        have hw : wrap64 ((i : Int) + 1) = ((i + 1 : Nat) : Int) := by
          have := HL40.out
          unfold wrap64
          omega
        rw [hw]
        exact ⟨⟨i + 1, A7, _, c7, rfl, by omega, rfl, ⟨Kd.R_mono HO7.out (fun _ _ => trivial)⟩, HB7⟩, by simp only [intOf, Int.toNat_natCast]; omega⟩
      · have hok' : okV (rd_T42 l (i : Int)) = false := by cases hq : okV (rd_T42 l (i : Int)) with
          | true => exact absurd hq hok
          | false => rfl
        have e0 : ((encV (rd_T42 l (i : Int))).2 == 0) = false := hok'
        have HN := Aside0.mk (take_no l i HI.out hok')
        clear hok hok'
        go_wp2
        have hi3 := HI.out
        have hw : wrap64 ((i : Int) + 1) = ((i + 1 : Nat) : Int) := by
          have := HL40.out
          unfold wrap64
          omega
        rw [hw]
        exact ⟨⟨i + 1, Af, n, cf, rfl, by omega, rfl, ⟨by rw [HN.out]; exact HRF5.out⟩, HBW5⟩, by simp only [intOf, Int.toNat_natCast]; omega⟩
    · obtain rfl : i = l.length := by omega
      have HRL := HRF.out
      rw [List.take_length] at HRL
      obtain ⟨Fl, hFl⟩ : ∃ Fl, Fl = l.filter okV := ⟨_, rfl⟩
      rw [← hFl] at HRL
      have hfo : ∀ x ∈ Fl, okV x = true := fun x hx => by rw [hFl] at hx; exact (List.mem_filter.1 hx).2
      have hfl : Fl.length ≤ l.length := by rw [hFl]; exact List.length_filter_le _ _
      have HR := Aside0.mk HRL
      clear HRL HRF hFl
      obtain ⟨A7, c7, e7⟩ := Kd.R_slice HR.out
      injection e7 with e7 e8 e9
      subst e7 e8 e9
      have HBL := Aside0.mk (below_step HB1.out HBW.out)
      have HA2 := Aside0.mk (blk_below HA1.out HBW.out)
      have z0 := blk_cell HA2.out 0
      have z1 := blk_cell HA2.out 1
      have z2 := blk_cell HA2.out 2
      have z3 := blk_cell HA2.out 3
      have z4 := blk_cell HA2.out 4
      have z5 := blk_cell HA2.out 5
      simp only [List.getElem?_toArray, List.getElem?_cons_zero, List.getElem?_cons_succ] at z0 z1 z2 z3 z4 z5
      clear HA2 HA1 hlt HBW
      go_wp2_with fail
      refine (Fit.fit cA dA rA sA cc dc rc sc _ _ _ _ fr fu _).mono ?_
      rintro e w8 ⟨rfl, hb8⟩
      have HB8 := Aside0.mk (below_step HBL.out hb8)
      have HR8 := Aside0.mk (Kd.R_below HR.out hb8)
      have HF := Aside0.mk (fitFu_le fu)
      have HFL := Aside0.mk (fit_lo HFU.out)
      generalize fitFr fr = fr2 at *
      generalize fitFu fu = fu2 at *
      clear hb8 z0 z1 z2 z3 z4 z5 HR HBL
      go_wp2_with fail
      refine (ravelinref15_Bytes.calls (Fl.length + 101) Af cf Fl _ _ _ _ (Kd.C_below (Kd.R_reads' HR8.out).2.2 (below_alloc (Below.refl _ _) _)) (Kd.R_reads' HR8.out).2.1 (bytes_eq Fl hfo (by have := HL40.out; omega))).mono ?_
      rintro e w9 ⟨v9, rfl, hr9, hb9⟩
      obtain ⟨A9, c9, e9⟩ := Kd.R_slice hr9
      subst e9
      have HB9 := Aside0.mk (below_step (below_alloc HB8.out _) hb9)
      have HE9 := Aside0.mk (blk_below (blk_new w8 (.cells #[.slice cA lc.length cc, .slice dA ld.length dc, .slice rA lr.length rc, .slice sA ls.length sc, .int .i64 fr2, .int .i64 fu2] 25)) hb9)
      have HR9 := Aside0.mk hr9
      clear hb9 hr9 HR8
      have z0 := blk_cell HE9.out 0
      have z1 := blk_cell HE9.out 1
      have z2 := blk_cell HE9.out 2
      have z3 := blk_cell HE9.out 3
      have z4 := blk_cell HE9.out 4
      have z5 := blk_cell HE9.out 5
      have f0 := blk_frozen HE9.out 0
      simp only [List.getElem?_toArray, List.getElem?_cons_zero, List.getElem?_cons_succ] at z0 z1 z2 z3 z4 z5
      go_wp2_with fail
      have HB10 := Aside0.mk (HB9.out.setCell (p := ⟨w8.heap.size, 0, none⟩) (below_size HB8.out) (.slice A9 (codeL Fl).length c9))
      have HR10 := Aside0.mk (Kd.R_set HR9.out HE9.out (by decide) 0 (.slice A9 (codeL Fl).length c9))
      have HE10 := Aside0.mk (blk_put (cs' := #[.slice A9 (codeL Fl).length c9, .slice dA ld.length dc, .slice rA lr.length rc, .slice sA ls.length sc, .int .i64 fr2, .int .i64 fu2]) HE9.out 0 (.slice A9 (codeL Fl).length c9) rfl)
      clear z0 z1 z2 z3 z4 z5 f0 HB9 HR9 HE9
      have e10 := HE.out.below HB10.out
      have HCL := Aside0.mk (show (codeL Fl).length ≤ 140737488355328 from by rw [codeL_len]; have := HL40.out; omega)
      refine (ERun.runs A9 dA rA sA c9 dc rc sc (codeL Fl) ld ls lr fr2 fu2 _ (Kd.R_reads' HR10.out).2.2 HCL.out e10.hd e10.hr e10.hs (codeL_bytes Fl) e10.bd e10.bs e10.wr HF.out).mono ?_
      rintro e w11 ⟨m, vr, vt, hm, rfl, hr, ht, hb11⟩
      obtain ⟨Ar, cr, ear⟩ := Kd.R_slice hr
      obtain ⟨At, ct, eat⟩ := Kd.R_slice ht
      subst ear eat
      have HB11 := Aside0.mk (below_step HB10.out hb11)
      have HE11 := Aside0.mk (blk_below HE10.out hb11)
      have HC11 := Aside0.mk (Kd.C_below (Kd.R_reads' HR10.out).2.2 hb11)
      have HCC := Aside0.mk (Kd.R_reads' HR10.out).2.1
      have HVR := Aside0.mk (Kd.R_reads' hr)
      have HVT := Aside0.mk (Kd.R_reads' ht)
      have HM := Aside0.mk hm
      have HRC := Aside0.mk (Kd.R_below HR10.out hb11)
      have HRR := Aside0.mk hr
      have HRT := Aside0.mk ht
      clear hb11 hr ht hm e10 HB10 HR10 HE10
      have HO11 := Aside0.mk (blk_new w11 (.cells #[.int .i64 m.err, .int .i64 (atOf m), .int .i64 m.steps, .slice Ar (regsOf m).length cr, .slice At m.tr.length ct] 31))
      have hbo := fun (o : Obj) => below_alloc (Below.refl w11.heap.size w11) o
      have HBO := Aside0.mk (fun (o : Obj) => below_alloc HB11.out o)
      have y0 := blk_cell HO11.out 0
      have y1 := blk_cell HO11.out 1
      have y2 := blk_cell HO11.out 2
      have y3 := blk_cell HO11.out 3
      have y4 := blk_cell HO11.out 4
      simp only [List.getElem?_toArray, List.getElem?_cons_zero, List.getElem?_cons_succ] at y0 y1 y2 y3 y4
      by_cases h3 : m.err = 3
      · have q1 : (m.err == 3) = true := beq_iff_eq.2 h3
        clear h3
        go_wp2_with fail
        go_ret
        exact ⟨rfl, HBO.out _⟩
      have q1 : (m.err == 3) = false := beq_eq_false_iff_ne.2 h3
      have q2 : (m.err = 3) = False := eq_false h3
      by_cases hm : more < 0
      · have q3 : decide (more < 0) = true := decide_eq_true hm
        have q4 : (more < 0) = True := eq_true hm
        clear h3 hm
        go_wp2_with fail
        go_ret
        exact ⟨rfl, HBO.out _⟩
      have q3 : decide (more < 0) = false := decide_eq_false hm
      have q4 : (more < 0) = False := eq_false hm
      have hm0 : 0 ≤ more := by omega
      have htm := tm_lt hm0
      have HMORE := Aside0.mk (SameP.run_more (codeL Fl) ld lr ls fr2 fu2 (Int.tmod more 1000) htm.1 (by rw [← HM.out]; exact h3))
      have HFM := Aside0.mk (show fu2 + Int.tmod more 1000 ≤ 1000000 from by have := HFL.out; omega)
      have hw : wrap64 (fu2 + Int.tmod more 1000) = fu2 + Int.tmod more 1000 := by
        have := HFL.out
        unfold wrap64
        omega
      have HW := Aside0.mk hw
      have hbq := below_alloc (Below.refl w11.heap.size w11) (.cells #[.int .i64 m.err, .int .i64 (atOf m), .int .i64 m.steps, .slice Ar (regsOf m).length cr, .slice At m.tr.length ct] 31)
      have HE12 := Aside0.mk (blk_below HE11.out hbq)
      have z0 := blk_cell HE12.out 0
      have z1 := blk_cell HE12.out 1
      have z2 := blk_cell HE12.out 2
      have z3 := blk_cell HE12.out 3
      have z4 := blk_cell HE12.out 4
      have z5 := blk_cell HE12.out 5
      have f5 := blk_frozen HE12.out 5
      simp only [List.getElem?_toArray, List.getElem?_cons_zero, List.getElem?_cons_succ] at z0 z1 z2 z3 z4 z5
      have HRC12 := Aside0.mk (Kd.R_below HRC.out hbq)
      have HRR12 := Aside0.mk (Kd.R_below HRR.out hbq)
      have HRT12 := Aside0.mk (Kd.R_below HRT.out hbq)
      have HTL := Aside0.mk (tr_len HM.out HF.out)
      clear h3 hm hm0 htm hbq hw hbo
      go_wp2_with fail
      rw [HW.out]
      have HB12 := Aside0.mk ((HBO.out (.cells #[.int .i64 m.err, .int .i64 (atOf m), .int .i64 m.steps, .slice Ar (regsOf m).length cr, .slice At m.tr.length ct] 31)).setCell (p := ⟨w8.heap.size, 5, none⟩) (below_size HB8.out) (.int .i64 (fu2 + Int.tmod more 1000)))
      have HE13 := Aside0.mk (blk_put (cs' := #[.slice A9 (codeL Fl).length c9, .slice dA ld.length dc, .slice rA lr.length rc, .slice sA ls.length sc, .int .i64 fr2, .int .i64 (fu2 + Int.tmod more 1000)]) HE12.out 5 (.int .i64 (fu2 + Int.tmod more 1000)) rfl)
      have HRC13 := Aside0.mk (Kd.R_set HRC12.out HE12.out (by decide) 5 (.int .i64 (fu2 + Int.tmod more 1000)))
      have HRR13 := Aside0.mk (Kd.R_set HRR12.out HE12.out (by decide) 5 (.int .i64 (fu2 + Int.tmod more 1000)))
      have HRT13 := Aside0.mk (Kd.R_set HRT12.out HE12.out (by decide) 5 (.int .i64 (fu2 + Int.tmod more 1000)))
      have hne : w11.heap.size ≠ w8.heap.size := by
        intro e
        have hlt := blk_lt HE11.out
        omega
      have HO13 := Aside0.mk (blk_far HO11.out (p := ⟨w8.heap.size, 5, none⟩) hne (.int .i64 (fu2 + Int.tmod more 1000)))
      clear HRC12 HRR12 HRT12 HE12 HO11 HBO z0 z1 z2 z3 z4 z5 f5 y0 y1 y2 y3 y4
      generalize ((w11.alloc (.cells #[.int .i64 m.err, .int .i64 (atOf m), .int .i64 m.steps, .slice Ar (regsOf m).length cr, .slice At m.tr.length ct] 31)).setCell ⟨w8.heap.size, 5, none⟩ (.int .i64 (fu2 + Int.tmod more 1000))) = W0 at *
      generalize w11.heap.size = go at *
      have y0 := blk_cell HO13.out 0
      have y1 := blk_cell HO13.out 1
      have y2 := blk_cell HO13.out 2
      have y3 := blk_cell HO13.out 3
      have y4 := blk_cell HO13.out 4
      have z0 := blk_cell HE13.out 0
      have z1 := blk_cell HE13.out 1
      have z2 := blk_cell HE13.out 2
      have z3 := blk_cell HE13.out 3
      have z4 := blk_cell HE13.out 4
      have z5 := blk_cell HE13.out 5
      simp only [List.getElem?_toArray, List.getElem?_cons_zero, List.getElem?_cons_succ] at y0 y1 y2 y3 y4 z0 z1 z2 z3 z4 z5
      have HRUN := Aside0.mk (show ∀ W, Below W0.heap.size W0 W → _ from fun W hb => ERun.runs A9 dA rA sA c9 dc rc sc (codeL Fl) ld ls lr fr2 (fu2 + Int.tmod more 1000) W (Kd.C_below (Kd.R_reads' HRC13.out).2.2 hb) HCL.out (HE.out.below (below_step HB12.out hb)).hd (HE.out.below (below_step HB12.out hb)).hr (HE.out.below (below_step HB12.out hb)).hs (codeL_bytes Fl) HE.out.bd HE.out.bs HE.out.wr HFM.out)
      have HSAME := Aside0.mk (show ∀ m2 : Mac, m2 = runM (newM (codeL Fl) ld lr ls fr2 (fu2 + Int.tmod more 1000)) → ∀ (Ar2 : Option Addr) (cr2 : Nat) (At2 : Option Addr) (ct2 : Nat) (W : World), Below W0.heap.size W0 W → ((regsOf m2).length = (regsOf m2).length ∧ (regsOf m2).length ≤ cr2 ∧ (Kd.int .u64).C W Ar2 (regsOf m2).length (regsOf m2)) → (m2.tr.length = m2.tr.length ∧ m2.tr.length ≤ ct2 ∧ k54.C W At2 m2.tr.length m2.tr) → Calls Tryz.prog 14 #[.agg #[.int .i64 m.err, .int .i64 (atOf m), .int .i64 m.steps, .slice Ar (regsOf m).length cr, .slice At m.tr.length ct], .agg #[.int .i64 m2.err, .int .i64 (atOf m2), .int .i64 m2.steps, .slice Ar2 (regsOf m2).length cr2, .slice At2 m2.tr.length ct2]] W fun e w' => e = .returned (.bool true) ∧ Below W.heap.size W w' from fun m2 hm2 Ar2 cr2 At2 ct2 W hb h1 h2 => by
        have e : m2 = wf m (fu2 + Int.tmod more 1000) := by rw [hm2, HMORE.out, ← HM.out]
        subst e
        exact ravelinref16_Same.calls ((regsOf m).length + m.tr.length + 10) m.err (atOf m) m.steps Ar cr (regsOf m) At ct m.tr m.err (atOf m) m.steps Ar2 cr2 (regsOf m) At2 ct2 m.tr true W (Kd.C_below (Kd.R_reads' HRR13.out).2.2 hb) (Kd.R_reads' HRR13.out).2.1 (Kd.C_below (Kd.R_reads' HRT13.out).2.2 hb) (Kd.R_reads' HRT13.out).2.1 h1.2.2 h1.2.1 h2.2.2 h2.2.1 (same_eq _ _ _ _ _ (by rw [regs_len]; omega) HTL.out))
      have hu31 := Tryz.underlying31
      have hu25 := Tryz.underlying25
      have L := below_drew1 (Below.refl W0.heap.size W0)
      refine start_ (n := 5) (S := fun w' => w'.cell? ⟨go, 0, none⟩ = some (.int .i64 m.err) ∧ w'.cell? ⟨go, 1, none⟩ = some (.int .i64 (atOf m)) ∧ w'.cell? ⟨go, 2, none⟩ = some (.int .i64 m.steps) ∧ w'.cell? ⟨go, 3, none⟩ = some (.slice Ar (regsOf m).length cr) ∧ w'.cell? ⟨go, 4, none⟩ = some (.slice At m.tr.length ct) ∧ w'.cell? ⟨w8.heap.size, 0, none⟩ = some (.slice A9 (codeL Fl).length c9) ∧ w'.cell? ⟨w8.heap.size, 1, none⟩ = some (.slice dA ld.length dc) ∧ w'.cell? ⟨w8.heap.size, 2, none⟩ = some (.slice rA lr.length rc) ∧ w'.cell? ⟨w8.heap.size, 3, none⟩ = some (.slice sA ls.length sc) ∧ w'.cell? ⟨w8.heap.size, 4, none⟩ = some (.int .i64 fr2) ∧ w'.cell? ⟨w8.heap.size, 5, none⟩ = some (.int .i64 (fu2 + Int.tmod more 1000))) (ds := []) #[false, false, false, false, false] (by kernel_rfl) rfl rfl ⟨kB L y0, kB L y1, kB L y2, kB L y3, kB L y4, kB L z0, kB L z1, kB L z2, kB L z3, kB L z4, kB L z5⟩ (fun hHeld => ?_)
      refine take_ (i := 0) (N := some 67) (v := ?_) (a' := ?_) #[true, false, false, false, false] rfl rfl (by kernel_rfl) (fun _ _ _ h => h) (Or.inl ⟨by rfl, ?_⟩) hHeld ?_ ?_
      rotate_left
      · rintro w' ⟨s0, s1, s2, s3, s4, s5, s6, s7, s8, s9, s10⟩
        go_simp
        with_reducible rfl
      rotate_left
      · simp only [Act.put, List.setIfInBounds_toArray, List.set_cons_zero, List.set_cons_succ, i64_w, i32_w]
        rfl
      refine take_ (i := 1) (N := some 68) (v := ?_) (a' := ?_) #[true, true, false, false, false] rfl rfl (by kernel_rfl) (fun _ _ _ h => h) (Or.inl ⟨by rfl, ?_⟩) hHeld ?_ ?_
      rotate_left
      · rintro w' ⟨s0, s1, s2, s3, s4, s5, s6, s7, s8, s9, s10⟩
        go_simp
        with_reducible rfl
      rotate_left
      · simp only [Act.put, List.setIfInBounds_toArray, List.set_cons_zero, List.set_cons_succ, i64_w, i32_w]
        rfl
      refine one_ (i := 2) (N := some 69) #[true, true, true, false, false] rfl rfl (by kernel_rfl) (by decide) (fun K hK => ?_)
      refine goes_ Tryz.func13 (by kernel_rfl) rfl #[.agg #[.slice A9 (codeL Fl).length c9, .slice dA ld.length dc, .slice rA lr.length rc, .slice sA ls.length sc, .int .i64 fr2, .int .i64 (fu2 + Int.tmod more 1000)]] (by rfl) rfl rfl (by simp only [List.map_toArray, List.map_cons, List.map_nil]; rfl) ?_
      with_reducible refine (HRUN.out _ L).mono ?_
      rintro e w13 ⟨m2, vr2, vt2, hm2, rfl, hr2, ht2, hb13⟩
      refine ⟨_, rfl, ?_⟩
      have L := below_step L hb13
      obtain ⟨Ar2, cr2, ear2⟩ := Kd.R_slice hr2
      obtain ⟨At2, ct2, eat2⟩ := Kd.R_slice ht2
      subst ear2 eat2
      have HVR2 := Aside0.mk (Kd.R_reads' hr2)
      have HVT2 := Aside0.mk (Kd.R_reads' ht2)
      have HM2 := Aside0.mk hm2
      clear hr2 ht2 hm2 hb13
      refine hK.out _ _ ⟨kB L y0, kB L y1, kB L y2, kB L y3, kB L y4, kB L z0, kB L z1, kB L z2, kB L z3, kB L z4, kB L z5⟩ (fun hHeld => ?_)
      clear hK K
      refine norm_ (a' := ?_) ?_ ?_
      rotate_left
      · show Act.put _ (some 69) _ = _
        simp only [Act.put, List.setIfInBounds_toArray, List.set_cons_zero, List.set_cons_succ, i64_w, i32_w]
        rfl
      refine one_ (i := 3) (N := some 70) #[true, true, true, true, false] rfl rfl (by kernel_rfl) (by decide) (fun K hK => ?_)
      refine goes_ Tryz.func14 (by kernel_rfl) rfl #[.agg #[.int .i64 m.err, .int .i64 (atOf m), .int .i64 m.steps, .slice Ar (regsOf m).length cr, .slice At m.tr.length ct], .agg #[.int .i64 m2.err, .int .i64 (atOf m2), .int .i64 m2.steps, .slice Ar2 (regsOf m2).length cr2, .slice At2 m2.tr.length ct2]] (by rfl) rfl rfl (by simp only [List.map_toArray, List.map_cons, List.map_nil]; rfl) ?_
      with_reducible refine (HSAME.out m2 HM2.out Ar2 cr2 At2 ct2 _ L HVR2.out HVT2.out).mono ?_
      rintro e w14 ⟨rfl, hb14⟩
      refine ⟨_, rfl, ?_⟩
      have L := below_step L hb14
      refine hK.out _ _ ⟨kB L y0, kB L y1, kB L y2, kB L y3, kB L y4, kB L z0, kB L z1, kB L z2, kB L z3, kB L z4, kB L z5⟩ (fun hHeld => ?_)
      clear hK K
      refine norm_ (a' := ?_) ?_ ?_
      rotate_left
      · show Act.put _ (some 70) _ = _
        simp only [Act.put, List.setIfInBounds_toArray, List.set_cons_zero, List.set_cons_succ, i64_w, i32_w]
        rfl
      refine pure_ (i := 4) (N := some 6) (v := ?_) (a' := ?_) #[true, true, true, true, true] rfl rfl (by kernel_rfl) (fun _ _ _ h => h) (Or.inl ⟨by rfl, ?_⟩) ?_ ?_
      rotate_left
      · intro w'
        go_simp
        with_reducible rfl
      rotate_left
      · simp only [Act.put, List.setIfInBounds_toArray, List.set_cons_zero, List.set_cons_succ, i64_w, i32_w]
        rfl
      refine done_ (by kernel_rfl) ?_

      have HBZ := Aside0.mk (below_step HB12.out L)
      clear hHeld L
      go_wp2_with fail
      go_ret
      exact ⟨rfl, HBZ.out⟩
end Go.Proofs.YtcgkgaibomcheaaGreat.MoreL
end

section
/- The given row of RvemuMore, proved: for every list of instructions, every entry and every number the law returns true, and its arguments read as they read before. Conditions: none beyond those of the row. -/
namespace Go.Proofs.YtcgkgaibomcheaaGreat.rvemuMore
open Go.ChangeShapes Go.WideShapes Go.ChangeAt Go.RowKit Go.Deep Go.Joins
open Go.ChangeMaps (open_string shut_string)
set_option linter.unusedVariables false
set_option linter.unusedSimpArgs false
theorem own : ownKnob Tryz.prog.godebug = none := by kernel_rfl
theorem laidOut : laidOutB Tryz.prog = true := by kernel_rfl
set_option maxRecDepth 100000 in
theorem law {H : Type} {enc : TypeId × Value → H} (W : World) (v0 : Value) (d0 : DataW H) (p0 : List MemPlace) (v1 : Value) (d1 : DataW H) (p1 : List MemPlace) (v2 : Value) (d2 : DataW H) (p2 : List MemPlace) (h0 : DataW.Trod enc Tryz.prog W 0 (fun _ => true) true 36 v0 d0 p0) (o0 : Value.okWide Tryz.prog W .any 0 36 v0) (h1 : DataW.Trod enc Tryz.prog W 0 (fun _ => true) true 25 v1 d1 p1) (o1 : Value.okWide Tryz.prog W .any 0 25 v1) (h2 : DataW.Trod enc Tryz.prog W 0 (fun _ => true) true 3 v2 d2 p2) (o2 : Value.okWide Tryz.prog W .any 0 3 v2) (hsz : (DataW.weightsEach Tryz.prog [36, 25, 3] [d0, d1, d2]).all (· ≤ reachBytes) = true) :
    Calls Tryz.prog 9 #[v0, v1, v2] W fun e w' => e = .returned (.bool true) ∧ Below W.heap.size W w' := by
  have hw : (d1.weights Tryz.prog 25).all (· ≤ reachBytes) = true := by
    have h2 := hsz
    simp only [DataW.weightsEach, List.all_append, Bool.and_eq_true] at h2
    exact h2.2.1
  obtain ⟨lA, c0, l, rfl, hlc, h40, hl, _⟩ := OpenRv.open_list hsz (j := 0) rfl rfl o0 h0
  obtain ⟨cA, dA, rA, sA, cc, dc, rc, sc, lc, ld, ls, lr, fr, fu, rfl, he, _, _, _, _, _, wfu⟩ := OpenEnv.open_env o1 h1 hw
  obtain ⟨more, rfl, _, _, _⟩ := open_int Tryz.underlying3 o2 h2
  have hfu : -9223372036854775808 ≤ fu ∧ fu ≤ 9223372036854775807 := by simpa [Lit.wf, IntKind.min, IntKind.max, IntKind.bits, IntKind.signed] using wfu
  exact MoreL.walk lA c0 l W hl hlc (by omega) cA dA rA sA cc dc rc sc lc ld ls lr fr fu more hfu.1 he
set_option maxRecDepth 100000 in
theorem lifted (os : Os) (started : os.Started) (H : Type) (enc : TypeId × Value → H) :
    ReturnsInHanded {} Tryz.checked os 9 .any (Rows.rvemuMoreSpec.pre6 enc Tryz.prog Tryz.f9 Rows.rvemuMoreRow.domain false) (Rows.rvemuMoreSpec.post enc Tryz.prog Tryz.f9 false true false false) := by
  refine returnsInHanded_of_change_sized (C := Tryz.checked) own started (by kernel_rfl) Tryz.func9
    (ChangeSpec.witness6 (enc := enc) (C := Tryz.checked) false ⟨#[], #[.slice none 0 0, .agg #[.slice none 0 0, .slice none 0 0, .slice none 0 0, .slice none 0 0, .int .i64 0, .int .i64 0], .int .i64 0], []⟩ 8 (by kernel_rfl) (by kernel_rfl) (by kernel_rfl) (by kernel_rfl)) ?_
  intro W base args ds gs before hval0 hW hcnd hsz0 _
  have hsz : (DataW.weightsEach Tryz.prog (Tryz.f9.params.toList ++ Rows.rvemuMoreSpec.plain.varTypes Tryz.prog) (ds ++ gs)).all (· ≤ reachBytes) = true := hsz0
  have hval : ∀ (j : Nat) t v, Tryz.f9.params[j]? = some t → args[j]? = some v → Value.okWide Tryz.prog W .any base t v := hval0
  have hW' := hW
  obtain ⟨p, q, hA0, hV, rfl, hfz, hnd⟩ := hW
  have hA : DataW.TrodAll enc Tryz.prog W 0 (fun _ => true) true Tryz.f9.params.toList args.toList ds p := hA0
  rw [Tryz.params9] at hA hval hsz
  obtain ⟨v0, vs0, d0, ds0, p0, q0, hargs, rfl, rfl, h0, r0⟩ := trodAll_cons hA
  obtain ⟨v1, vs1, d1, ds1, p1, q1, rfl, rfl, rfl, h1, r1⟩ := trodAll_cons r0
  obtain ⟨v2, vs2, d2, ds2, p2, q2, rfl, rfl, rfl, h2, r2⟩ := trodAll_cons r1
  obtain ⟨rfl, rfl, rfl⟩ := trodAll_nil r2
  obtain rfl : args = #[v0, v1, v2] := by cases args; simp_all
  obtain ⟨rfl, rfl⟩ := trodVars_none hV
  have k0 := h0
  have lt0 : ∀ x ∈ p0, x.block < W.heap.size := by obtain ⟨m, hm⟩ := k0; exact DataW.trod_lt m _ _ _ hm
  have k1 := h1
  have lt1 : ∀ x ∈ p1, x.block < W.heap.size := by obtain ⟨m, hm⟩ := k1; exact DataW.trod_lt m _ _ _ hm
  have k2 := h2
  have lt2 : ∀ x ∈ p2, x.block < W.heap.size := by obtain ⟨m, hm⟩ := k2; exact DataW.trod_lt m _ _ _ hm
  refine (law (enc := enc) W v0 d0 p0 v1 d1 p1 v2 d2 p2 h0 (hval 0 36 v0 rfl rfl) h1 (hval 1 25 v1 rfl rfl) h2 (hval 2 3 v2 rfl rfl) hsz).mono fun e W' ⟨he, bel⟩ => ?_
  subst he
  exact ⟨_, rfl, _, _, _, [], _, [], hW', trodAll_mk1 (shut_bool Tryz.underlying4 _), (trodAll_cons_mk (Below.trod laidOut (by kernel_rfl) (of_decide_eq_true (by kernel_rfl)) k0 bel lt0) (trodAll_cons_mk (Below.trod laidOut (by kernel_rfl) (of_decide_eq_true (by kernel_rfl)) k1 bel lt1) (trodAll_cons_mk (Below.trod laidOut (by kernel_rfl) (of_decide_eq_true (by kernel_rfl)) k2 bel lt2) trodAll_mk0))), rfl, bel.frame _, fun h => by cases h⟩
theorem over : Rows.rvemuMoreRow.holds Tryz.pinned (OpenSpec.ofChange Rows.rvemuMoreSpec) :=
  OpenClaim.holds_of_wide 9 Tryz.f9 rfl rfl rfl rfl rfl rfl rfl ⟨rfl, rfl, rfl, rfl, rfl⟩ rfl rfl rfl rfl rfl (by kernel_rfl) Tryz.func9 (by kernel_rfl)
    (of_decide_eq_true (by kernel_rfl)) (by unfold Func.isWrapper; first | (rw [if_pos (by decide +kernel)]; kernel_rfl) | (rw [if_neg (by decide +kernel)]; exact ⟨rfl, rfl⟩))
    (fun os started H enc _ => lifted os started H enc)
end Go.Proofs.YtcgkgaibomcheaaGreat.rvemuMore
namespace Go.Proofs.YtcgkgaibomcheaaGreat
/-- The row, under a short name, for the claim. -/
theorem rvemuMore_holds : Rows.RvemuMoreSaid := rvemuMore.over
end Go.Proofs.YtcgkgaibomcheaaGreat
end

section
/- Code that makes no access: what stands in the data and on the stack is not seen. In plain numbers. No memory here. -/
namespace Go.Proofs.YtcgkgaibomcheaaGreat.QuietP
open Go.RowKit Go.Proofs.YtcgkgaibomcheaaGreat.Bits Go.Proofs.YtcgkgaibomcheaaGreat.Mac Go.Proofs.YtcgkgaibomcheaaGreat.Dec Go.Proofs.YtcgkgaibomcheaaGreat.NewM Go.Proofs.YtcgkgaibomcheaaGreat.Pure Go.Proofs.YtcgkgaibomcheaaGreat.Goes Go.Proofs.YtcgkgaibomcheaaGreat.EOut Go.Proofs.YtcgkgaibomcheaaGreat.FineP Go.Proofs.YtcgkgaibomcheaaGreat.SameP Go.Proofs.YtcgkgaibomcheaaGreat.PRvemuRuns Go.Proofs.YtcgkgaibomcheaaGreatW.PrintWords
set_option linter.unusedVariables false
set_option linter.unusedSimpArgs false
/-- With other data and another frame. -/
def wd (m : Mac) (d f : List Int) : Mac := { m with data := d, frame := f }
/-- Has it a word, and makes it no access? -/
def okQ (x : S42) : Bool := okV x && !(decide (x.f0 ≥ 11) && decide (x.f0 ≤ 15))
theorem take_yesP (p : S42 → Bool) (l : List S42) (i : Nat) (hi : i < l.length) (h : p (rd_T42 l (i : Int)) = true) : (l.take (i + 1)).filter p = (l.take i).filter p ++ [rd_T42 l (i : Int)] := by
  have e : rd_T42 l (i : Int) = l[i] := by
    show l.getD i z42 = _
    rw [List.getD_eq_getElem?_getD, List.getElem?_eq_getElem hi]
    rfl
  rw [e] at h ⊢
  rw [List.take_succ_eq_append_getElem hi, List.filter_append, List.filter_cons_of_pos h]
  rfl
theorem take_noP (p : S42 → Bool) (l : List S42) (i : Nat) (hi : i < l.length) (h : p (rd_T42 l (i : Int)) = false) : (l.take (i + 1)).filter p = (l.take i).filter p := by
  have e : rd_T42 l (i : Int) = l[i] := by
    show l.getD i z42 = _
    rw [List.getD_eq_getElem?_getD, List.getElem?_eq_getElem hi]
    rfl
  rw [e] at h
  rw [List.take_succ_eq_append_getElem hi, List.filter_append, List.filter_cons_of_neg (by rw [h]; decide), List.filter_nil, List.append_nil]
theorem code_at (l : List S42) (i : Nat) (hi : i < l.length) (q : Nat) (hq : q < 4) : (codeL l).getD (4 * i + q) 0 = (code4 l[i]).getD q 0 := by
  induction l generalizing i with
  | nil => exact absurd hi (Nat.not_lt_zero _)
  | cons x l ih =>
    have e : codeL (x :: l) = code4 x ++ codeL l := rfl
    have e4 : (code4 x).length = 4 := rfl
    rw [e, List.getD_eq_getElem?_getD, List.getD_eq_getElem?_getD]
    cases i with
    | zero =>
      rw [List.getElem?_append_left (by rw [e4]; omega)]
      rw [Nat.mul_zero, Nat.zero_add]
      rfl
    | succ i =>
      have hi' : i < l.length := by rw [List.length_cons] at hi; omega
      rw [List.getElem?_append_right (by rw [e4]; omega), e4, show 4 * (i + 1) + q - 4 = 4 * i + q from by omega]
      have h := ih i hi'
      rw [List.getD_eq_getElem?_getD, List.getD_eq_getElem?_getD] at h
      rw [h]
      rfl
theorem four (w : Nat) (hw : w < 4294967296) (q : Nat) (hq : q < 4) : ([(w : Int) % 256, (w : Int) / 256 % 256, (w : Int) / 65536 % 256, (w : Int) / 16777216 % 256].getD q 0).toNat = w / 2 ^ (8 * q) % 2 ^ 8 := by
  rcases (by omega : q = 0 ∨ q = 1 ∨ q = 2 ∨ q = 3) with rfl | rfl | rfl | rfl
  · show ((w : Int) % 256).toNat = w / 1 % 256; omega
  · show ((w : Int) / 256 % 256).toNat = w / 256 % 256; omega
  · show ((w : Int) / 65536 % 256).toNat = w / 65536 % 256; omega
  · show ((w : Int) / 16777216 % 256).toNat = w / 16777216 % 256; omega
theorem word_at (l : List S42) (i : Nat) (hi : i < l.length) (hx : okV l[i] = true) : (ld (codeL l) (4 * i) 4).toNat = (encV l[i]).1 := by
  obtain ⟨_, _, hw, _⟩ := okV_op hx
  have e : ld (codeL l) (4 * i) 4 = BitVec.ofNat 64 (encV l[i]).1 := by
    refine BitVec.eq_of_getLsbD_eq fun j hj => ?_
    rw [ld_at (codeL_bytes l) (4 * i) 4 j hj, BitVec.getLsbD_ofNat]
    by_cases h : j < 32
    · rw [code_at l i hi (j / 8) (by omega)]
      have h4 := four (encV l[i]).1 hw (j / 8) (by omega)
      have e4 : (code4 l[i]).getD (j / 8) 0 = [((encV l[i]).1 : Int) % 256, ((encV l[i]).1 : Int) / 256 % 256, ((encV l[i]).1 : Int) / 65536 % 256, ((encV l[i]).1 : Int) / 16777216 % 256].getD (j / 8) 0 := rfl
      rw [e4, h4, Nat.testBit_mod_two_pow, Nat.testBit_div_two_pow]
      have e5 : 8 * (j / 8) + j % 8 = j := by omega
      rw [Nat.add_comm] at e5
      simp only [e5, show j < 8 * 4 from by omega, show j % 8 < 8 from by omega, hj, decide_true, Bool.true_and, show j % 8 + 8 * (j / 8) = j from by omega]
    · have h2 : (encV l[i]).1.testBit j = false := Nat.testBit_lt_two_pow (Nat.lt_of_lt_of_le hw (by
        have : 2 ^ 32 ≤ 2 ^ j := Nat.pow_le_pow_right (by decide) (by omega)
        omega))
      rw [h2, show decide (j < 8 * 4) = false from decide_eq_false (by omega)]
      simp
  rw [e, BitVec.toNat_ofNat, Nat.mod_eq_of_lt (by omega)]
/-- What such code decodes to. -/
theorem dec_quiet {m : Mac} {l : List S42} (hc : m.code = codeL l) (hl : ∀ x ∈ l, okQ x = true) (hf : fetches m = true) : ∃ n, dec (word m) = some n ∧ ¬ (11 ≤ n ∧ n ≤ 15) := by
  unfold fetches at hf
  have hf := of_decide_eq_true hf
  rw [hc, codeL_len] at hf
  obtain ⟨h4, hlo, hhi⟩ := hf
  obtain ⟨i, hi⟩ : ∃ i, m.pc.toNat - 4194304 = 4 * i := ⟨(m.pc.toNat - 4194304) / 4, by omega⟩
  have hil : i < l.length := by omega
  have hq := hl _ (List.getElem_mem hil)
  unfold okQ at hq
  rw [Bool.and_eq_true] at hq
  obtain ⟨hx, hnl⟩ := hq
  obtain ⟨h1, h34, hw, hh⟩ := okV_op hx
  have e : word m = (encV l[i]).1 := by
    unfold word
    rw [hc, hi]
    exact word_at l i hil hx
  refine ⟨l[i].f0.toNat, ?_, ?_⟩
  · rw [e]
    exact dec_yes (by omega) (by omega) hh
  · intro ⟨a, b⟩
    rw [show decide (l[i].f0 ≥ 11) = true from decide_eq_true (by omega), show decide (l[i].f0 ≤ 15) = true from decide_eq_true (by omega)] at hnl
    cases hnl
theorem does_wd (m : Mac) (d f : List Int) (n w : Nat) (hn : ¬ (11 ≤ n ∧ n ≤ 15)) : does (wd m d f) n w = (wd (does m n w).1 d f, (does m n w).2) ∧ (does m n w).1.tr = m.tr := by
  have e1 : ra (wd m d f) n w = ra m n w := rfl
  have e2 : rb (wd m d f) n w = rb m n w := rfl
  have es : ∀ (q : Mac) r v, setx (wd q d f) r v = wd (setx q r v) d f := fun q r v => by
    unfold setx
    by_cases h : r = 0
    · rw [if_pos h, if_pos h]
    · rw [if_neg h, if_neg h]; rfl
  unfold does
  by_cases h10 : n ≤ 10
  · rw [if_pos h10, if_pos h10]
    exact ⟨congrArg (fun q => (q, (0 : Int))) (es (setpc m (m.pc + 4#64)) (fdOf n w) (oneV n (ra m n w) (im n w))), tr_setx _ _ _⟩
  rw [if_neg h10, if_neg h10, if_neg (show ¬ n ≤ 13 from by omega), if_neg (show ¬ n ≤ 13 from by omega), if_neg (show ¬ n ≤ 15 from by omega), if_neg (show ¬ n ≤ 15 from by omega)]
  by_cases h28 : n ≤ 28
  · rw [if_pos h28, if_pos h28, e1, e2]
    cases RTwo.two n (ra m n w) (rb m n w) with
    | none => exact ⟨rfl, rfl⟩
    | some v => exact ⟨congrArg (fun q => (q, (0 : Int))) (es (setpc m (m.pc + 4#64)) (fdOf n w) v), tr_setx _ _ _⟩
  rw [if_neg h28, if_neg h28]
  by_cases h32 : n ≤ 32
  · rw [if_pos h32, if_pos h32]; exact ⟨rfl, rfl⟩
  rw [if_neg h32, if_neg h32]
  by_cases h33 : n = 33
  · rw [if_pos h33, if_pos h33]
    exact ⟨congrArg (fun q => (q, (0 : Int))) (es (setpc m (m.pc + im n w)) (fdOf n w) (m.pc + 4#64)), tr_setx _ _ _⟩
  · rw [if_neg h33, if_neg h33]
    exact ⟨congrArg (fun q => (q, (0 : Int))) (es (setpc m ((ra m n w + im n w) &&& ~~~1#64)) (fdOf n w) (m.pc + 4#64)), tr_setx _ _ _⟩
theorem step_wd (m : Mac) (d f : List Int) (h : fetches m = true → ∃ n, dec (word m) = some n ∧ ¬ (11 ≤ n ∧ n ≤ 15)) : stepM (wd m d f) = wd (stepM m) d f ∧ (stepM m).tr = m.tr := by
  unfold stepM
  by_cases hd : m.done = true
  · rw [if_pos hd, if_pos (show (wd m d f).done = true from hd)]; exact ⟨rfl, rfl⟩
  rw [if_neg hd, if_neg (show ¬ (wd m d f).done = true from hd)]
  by_cases hb : m.pc = back
  · rw [if_pos hb, if_pos (show (wd m d f).pc = back from hb)]; exact ⟨rfl, rfl⟩
  rw [if_neg hb, if_neg (show ¬ (wd m d f).pc = back from hb)]
  by_cases hs : m.fuel ≤ m.steps
  · rw [if_pos hs, if_pos (show (wd m d f).fuel ≤ (wd m d f).steps from hs)]; exact ⟨rfl, rfl⟩
  rw [if_neg hs, if_neg (show ¬ (wd m d f).fuel ≤ (wd m d f).steps from hs)]
  by_cases hft : fetches m = false
  · rw [if_pos hft, if_pos (show fetches (wd m d f) = false from hft)]; exact ⟨rfl, rfl⟩
  rw [if_neg hft, if_neg (show ¬ fetches (wd m d f) = false from hft)]
  have hft' : fetches m = true := by cases hq : fetches m with
    | true => rfl
    | false => exact absurd hq hft
  obtain ⟨n, hn, hno⟩ := h hft'
  rw [show word (wd m d f) = word m from rfl, hn]
  simp only
  obtain ⟨e1, e2⟩ := does_wd m d f n (word m) hno
  rw [e1]
  by_cases h0 : (does m n (word m)).2 = 0
  · rw [if_pos h0, if_pos h0]; exact ⟨rfl, e2⟩
  · rw [if_neg h0, if_neg h0]; exact ⟨rfl, rfl⟩
theorem it_wd (m : Mac) (d f : List Int) (l : List S42) (hc : m.code = codeL l) (hl : ∀ x ∈ l, okQ x = true) : ∀ k, it k (wd m d f) = wd (it k m) d f ∧ (it k m).tr = m.tr ∧ (it k m).code = codeL l
  | 0 => ⟨rfl, rfl, hc⟩
  | k + 1 => by
    obtain ⟨a, b, c⟩ := it_wd m d f l hc hl k
    obtain ⟨e, t⟩ := step_wd (it k m) d f (dec_quiet c hl)
    refine ⟨?_, t.trans b, ?_⟩
    · show stepM (it k (wd m d f)) = _
      rw [a]
      exact e
    · show (stepM (it k m)).code = _
      rcases step_cases (it k m) with ⟨_, q⟩ | ⟨hd, er, q⟩ | ⟨hd, _, n, _, _, q⟩
      · rw [q]; exact c
      · rw [q]; exact c
      · rw [q]; exact (does_ok _ n _).1.code.trans c
/-- Other data, another stack: the same outcome, and no access. -/
theorem run_quiet (l : List S42) (hl : ∀ x ∈ l, okQ x = true) (ld lr ls ld' ls' : List Int) (fr fu : Int) : ∃ d f, runM (newM (codeL l) ld' lr ls' fr fu) = wd (runM (newM (codeL l) ld lr ls fr fu)) d f ∧ (runM (newM (codeL l) ld lr ls fr fu)).tr = [] := by
  have e : ∃ d f, newM (codeL l) ld' lr ls' fr fu = wd (newM (codeL l) ld lr ls fr fu) d f := by
    unfold newM
    by_cases hb : bad fr
    · rw [if_pos hb, if_pos hb]; exact ⟨Fill.pad ld' 64, [], rfl⟩
    · rw [if_neg hb, if_neg hb]; exact ⟨Fill.pad ld' 64, Fill.pad ls' fr.toNat, rfl⟩
  obtain ⟨d, f, e⟩ := e
  have ht : (newM (codeL l) ld lr ls fr fu).tr = [] := by unfold newM; split <;> rfl
  obtain ⟨a, b, _⟩ := it_wd (newM (codeL l) ld lr ls fr fu) d f l (new_code _ _ _ _ _ _) hl ((newM (codeL l) ld lr ls fr fu).fuel.toNat + 1)
  refine ⟨d, f, ?_, b.trans ht⟩
  have ef : (newM (codeL l) ld' lr ls' fr fu).fuel = (newM (codeL l) ld lr ls fr fu).fuel := by rw [new_fuel, new_fuel]
  unfold runM
  rw [ef, e]
  exact a
end Go.Proofs.YtcgkgaibomcheaaGreat.QuietP
end

section
/- The law RvemuQuiet. Conditions: the list and the entries can be read. -/
namespace Go.Proofs.YtcgkgaibomcheaaGreat.QuietL
open Go.RowKit Go.Proofs.YtcgkgaibomcheaaGreat.Bits Go.Proofs.YtcgkgaibomcheaaGreat.Mac Go.Proofs.YtcgkgaibomcheaaGreat.Mb Go.Proofs.YtcgkgaibomcheaaGreat.Rd Go.Proofs.YtcgkgaibomcheaaGreat.RDec Go.Proofs.YtcgkgaibomcheaaGreat.EM Go.Proofs.YtcgkgaibomcheaaGreat.EOut Go.Proofs.YtcgkgaibomcheaaGreat.NewM Go.Proofs.YtcgkgaibomcheaaGreat.Pure Go.Proofs.YtcgkgaibomcheaaGreat.Goes Go.Proofs.YtcgkgaibomcheaaGreat.Fit Go.Proofs.YtcgkgaibomcheaaGreat.FineP Go.Proofs.YtcgkgaibomcheaaGreat.AccessL Go.Proofs.YtcgkgaibomcheaaGreat.SameP Go.Proofs.YtcgkgaibomcheaaGreat.QuietP Go.Proofs.YtcgkgaibomcheaaGreat.Conf Go.Proofs.YtcgkgaibomcheaaGreat.EndsL Go.Proofs.YtcgkgaibomcheaaGreat.PRvemuRuns Go.Proofs.YtcgkgaibomcheaaGreatW.PrintWords Go.Proofs.YtcgkgaibomcheaaGreatW.PrintLast Go.Proofs.YtcgkgaibomcheaaGreatW.PrintMore
attribute [local go_sem] max2_int min2_int max_two min_two
set_option linter.unusedVariables false
set_option linter.unusedSimpArgs false
set_option maxRecDepth 20000 in
set_option maxHeartbeats 1000000 in
theorem walk (lA : Option Addr) (c0 : Nat) (l : List S42) (w : World) (hl : k42.C w lA l.length l) (hlc : l.length ≤ c0) (hl40 : l.length * 40 ≤ 140737488355328) (cA dA rA sA : Option Addr) (cc dc rc sc : Nat) (lc ld ls lr : List Int) (fr fu : Int) (cB dB rB sB : Option Addr) (kc kd kr ks : Nat) (mc md ms mr : List Int) (gr gu : Int) (h2 : EnvAt w cB dB rB sB kc kd kr ks mc md ms mr) (h : EnvAt w cA dA rA sA cc dc rc sc lc ld ls lr) :
    Calls Tryz.prog 7 #[.slice lA l.length c0, .agg #[.slice cA lc.length cc, .slice dA ld.length dc, .slice rA lr.length rc, .slice sA ls.length sc, .int .i64 fr, .int .i64 fu], .agg #[.slice cB mc.length kc, .slice dB md.length kd, .slice rB mr.length kr, .slice sB ms.length ks, .int .i64 gr, .int .i64 gu]] w fun e w' => e = .returned (.bool true) ∧ Below w.heap.size w w' := by
  have hbA := below_alloc (below_alloc (Below.refl w.heap.size w) (.cells #[.slice cA lc.length cc, .slice dA ld.length dc, .slice rA lr.length rc, .slice sA ls.length sc, .int .i64 fr, .int .i64 fu] 25)) (.cells #[.slice cB mc.length kc, .slice dB md.length kd, .slice rB mr.length kr, .slice sB ms.length ks, .int .i64 gr, .int .i64 gu] 25)
  have HAO := Aside0.mk (blk_new (w.alloc (.cells #[.slice cA lc.length cc, .slice dA ld.length dc, .slice rA lr.length rc, .slice sA ls.length sc, .int .i64 fr, .int .i64 fu] 25)) (.cells #[.slice cB mc.length kc, .slice dB md.length kd, .slice rB mr.length kr, .slice sB ms.length ks, .int .i64 gr, .int .i64 gu] 25))
  have HA := Aside0.mk (blk_below (blk_new w (.cells #[.slice cA lc.length cc, .slice dA ld.length dc, .slice rA lr.length rc, .slice sA ls.length sc, .int .i64 fr, .int .i64 fu] 25)) (below_alloc (Below.refl _ _) (.cells #[.slice cB mc.length kc, .slice dB md.length kd, .slice rB mr.length kr, .slice sB ms.length ks, .int .i64 gr, .int .i64 gu] 25)))
  simp only [World.size_alloc] at HAO
  have HE2 := Aside0.mk h2
  have hu42 := Tryz.underlying42
  have HE := Aside0.mk h
  have HB := Aside0.mk hbA
  have HL := Aside0.mk hl
  have HLC := Aside0.mk hlc
  have HL40 := Aside0.mk hl40
  clear h2 h hbA hl hlc hl40
  go_enter Tryz.func7, Tryz.ntmps7
  go_wp2_with fail
  refine (Head.head _).mono ?_
  rintro e w1 ⟨rfl, hb1⟩
  have HA1 := Aside0.mk (blk_below HA.out hb1)
  have HAO1 := Aside0.mk (blk_below HAO.out hb1)
  have HB1 := Aside0.mk (below_step HB.out hb1)
  clear hb1 HA HAO HB
  go_wp2_with fail
  go_loopw [8, 9] (fun v6 v7 W => ∃ (i : Nat) (Af : Option Addr) (n cf : Nat), v7 = .int .i64 (i : Int) ∧ i ≤ l.length ∧ v6 = .slice Af n cf ∧ Aside0 (Kd.R k42 42 W w1.heap.size (fun _ => True) (.slice Af n cf) ((l.take i).filter okQ)) ∧ Aside0 (Below w1.heap.size w1 W)) (fun v6 v7 _ => l.length - (intOf v7).toNat)
  case atStart => exact ⟨0, none, 0, 0, rfl, by omega, rfl, ⟨Kd.R_nil _ _ _ _ _⟩, ⟨Below.refl _ _⟩⟩
  case round =>
    obtain ⟨i, Af, n, cf, rfl, hi, rfl, HRF, HBW⟩ := hrel
    by_cases hlt : i < l.length
    · have t1 : decide ((i : Int) < (l.length : Int)) = true := decide_eq_true (by omega)
      have u1 : ((i : Int) < (l.length : Int)) = True := eq_true (by omega)
      have u2 : (0 ≤ (i : Int)) = True := eq_true (by omega)
      have HI := Aside0.mk hlt
      have HBL := Aside0.mk (below_step HB1.out HBW.out)
      obtain ⟨ad, rfl, x0, x1, x2, x3, x4⟩ := at_T42 (Kd.C_below HL.out HBL.out) (i : Int) (by omega) (by omega)
      simp only [Int.toNat_natCast] at x0 x1 x2 x3 x4
      clear hlt
      go_wp2_with fail
      refine (ravelinref15_Encode.calls 100 _ _ _ _ _ _ _ _ (enc_all 100 (by omega) (rd_T42 l (i : Int)))).mono ?_
      rintro e w5 ⟨rfl, hb5⟩
      have HRF5 := Aside0.mk (Kd.R_below HRF.out hb5)
      have HBW5 := Aside0.mk (below_step HBW.out hb5)
      replace x0 := kB hb5 x0
      replace x1 := kB hb5 x1
      replace x2 := kB hb5 x2
      replace x3 := kB hb5 x3
      replace x4 := kB hb5 x4
      clear hb5 HRF HBW
      have HI2 := HI.out
      by_cases ha : 11 ≤ (rd_T42 l (i : Int)).f0
      · have hp1 : decide ((rd_T42 l (i : Int)).f0 ≥ 11) = true := decide_eq_true ha
        have hq1 : (11 ≤ (rd_T42 l (i : Int)).f0) = True := eq_true ha
        have hd1 : decide ((rd_T42 l (i : Int)).f0 ≥ 11) = true := hp1
        clear ha
        by_cases hb : (rd_T42 l (i : Int)).f0 ≤ 15
        · have hp2 : decide ((rd_T42 l (i : Int)).f0 ≤ 15) = true := decide_eq_true hb
          have hq2 : ((rd_T42 l (i : Int)).f0 ≤ 15) = True := eq_true hb
          have hd2 : decide ((rd_T42 l (i : Int)).f0 ≤ 15) = true := hp2
          clear hb
          cases he : ((encV (rd_T42 l (i : Int))).2 == 0)
          · have HN := Aside0.mk (take_noP okQ l i HI.out (by unfold okQ okV; rw [he, hp1, hp2]; rfl))
            clear hp1 hp2
            go_wp2
            have hi3 := HI.out
            have hw : wrap64 ((i : Int) + 1) = ((i + 1 : Nat) : Int) := by
              have := HL40.out
              unfold wrap64
              omega
            rw [hw]
            exact ⟨⟨i + 1, Af, n, cf, rfl, by omega, rfl, ⟨by rw [HN.out]; exact HRF5.out⟩, HBW5⟩, by simp only [intOf, Int.toNat_natCast]; omega⟩
          · have HN := Aside0.mk (take_noP okQ l i HI.out (by unfold okQ okV; rw [he, hp1, hp2]; rfl))
            clear hp1 hp2
            go_wp2
            have hi3 := HI.out
            have hw : wrap64 ((i : Int) + 1) = ((i + 1 : Nat) : Int) := by
              have := HL40.out
              unfold wrap64
              omega
            rw [hw]
            exact ⟨⟨i + 1, Af, n, cf, rfl, by omega, rfl, ⟨by rw [HN.out]; exact HRF5.out⟩, HBW5⟩, by simp only [intOf, Int.toNat_natCast]; omega⟩
        · have hp2 : decide ((rd_T42 l (i : Int)).f0 ≤ 15) = false := decide_eq_false hb
          have hq2 : ((rd_T42 l (i : Int)).f0 ≤ 15) = False := eq_false hb
          have hd2 : decide ((rd_T42 l (i : Int)).f0 ≤ 15) = false := hp2
          clear hb
          cases he : ((encV (rd_T42 l (i : Int))).2 == 0)
          · have HN := Aside0.mk (take_noP okQ l i HI.out (by unfold okQ okV; rw [he, hp1, hp2]; rfl))
            clear hp1 hp2
            go_wp2
            have hi3 := HI.out
            have hw : wrap64 ((i : Int) + 1) = ((i + 1 : Nat) : Int) := by
              have := HL40.out
              unfold wrap64
              omega
            rw [hw]
            exact ⟨⟨i + 1, Af, n, cf, rfl, by omega, rfl, ⟨by rw [HN.out]; exact HRF5.out⟩, HBW5⟩, by simp only [intOf, Int.toNat_natCast]; omega⟩
          · have HN := Aside0.mk (take_yesP okQ l i HI.out (by unfold okQ okV; rw [he, hp1, hp2]; rfl))
            have HLN := Aside0.mk (show ((l.take i).filter okQ).length ≤ i from by
              have := List.length_filter_le okQ (l.take i)
              rw [List.length_take] at this
              omega)
            clear hp1 hp2
            generalize encV (rd_T42 l (i : Int)) = ev at *
            generalize rd_T42 l (i : Int) = xv at *
            go_wp2_with (first | ((with_reducible refine gate_dst (N := 57) rfl ?_); refine Kd.R_lit k42 _ 42 ?hg (N := 57) ?hd (xs := [xv]) (inner := [.int .i64 xv.f0, .int .i64 xv.f1, .int .i64 xv.f2, .int .i64 xv.f3, .int .i64 xv.f4]) (ok := fun _ => True) (okp := fun _ => True) ?hr ?hp (fun _ hk => hk) trivial (Below.refl _ _) (Nat.le_refl _) (by simp) ?_; (case hd => rfl); (case hg => rfl); (case hr => first | (go_simp; done) | (go_simp; rfl)); (case hp => exact (Reps.snoc (Reps.none _ _) (k42_mkM _ _ _ xv) rfl)); intro v35 w6 ho6 hb6 hg6_ hn6_; clear hg6_ hn6_; have HF6 := Aside0.mk (Kd.R_elder' HRF5.out (Kd.R_base ho6) hb6); have HO6 := Aside0.mk (Kd.R_lower (Kd.R_new' ho6 (Kd.R_lt HRF5.out)) (below_size HBW5.out)); have HBW6 := Aside0.mk (below_step HBW5.out hb6); clear hb6 ho6 HRF5 HBW5; obtain ⟨Ao6, co6, eo6⟩ := Kd.R_slice HO6.out; subst eo6) | ((with_reducible refine gate_builtin (b := .append) (xs := #[.tmp 52, .tmp 57]) rfl ?_); at_builtin; refine Kd.R_append_rows k42 (w0 := w1) w1.heap.size rfl (.tmp 52) (.tmp 57) 36 42 (.agg #[.int .i64 0, .int .i64 0, .int .i64 0, .int .i64 0, .int .i64 0]) 40 rfl Tryz.underlying36 inf42 rfl (by decide) (by omega) _ ((l.take i).filter okQ) [xv] _ _ _ (fun k_ => some k_ ≠ (.slice Ao6 ([xv] : List S42).length co6 : Value).ownBlock) (fun _ => False) rfl rfl ?aO ?aR (fun _ _ h => h) (fun _ h => h.elim) ?aF ?aB ?aS ?aL ?_; (case aR => exact (Kd.R_reads' HO6.out).2.2); (case aB => exact HBW6.out); (case aF => exact (fun k_ hk => Kd.fresh' (Kd.R_lt HO6.out) k_ hk)); (case aO => exact Kd.R_mono HF6.out (fun _ hk => hk.2)); (case aS => exact below_size HBW6.out); (case aL => have h1 := HLN.out; have h2 := HI.out; have h3 := HL40.out; simp only [List.length_singleton]; omega); intro v36 w7 ho7 hb7 hg7 hat7; rw [← HN.out] at ho7; have HO7 := Aside0.mk ho7; have HB7 := Aside0.mk hb7; clear ho7 hb7 hg7 hat7))
            obtain ⟨A7, c7, e7⟩ := Kd.R_slice HO7.out
            subst e7
            have hi3 := HI.out
            have hw : wrap64 ((i : Int) + 1) = ((i + 1 : Nat) : Int) := by
              have := HL40.out
              unfold wrap64
              omega
            rw [hw]
            exact ⟨⟨i + 1, A7, _, c7, rfl, by omega, rfl, ⟨Kd.R_mono HO7.out (fun _ _ => trivial)⟩, HB7⟩, by simp only [intOf, Int.toNat_natCast]; omega⟩
      · have hp1 : decide ((rd_T42 l (i : Int)).f0 ≥ 11) = false := decide_eq_false ha
        have hq1 : (11 ≤ (rd_T42 l (i : Int)).f0) = False := eq_false ha
        have hd1 : decide ((rd_T42 l (i : Int)).f0 ≥ 11) = false := hp1
        clear ha
        cases he : ((encV (rd_T42 l (i : Int))).2 == 0)
        · have HN := Aside0.mk (take_noP okQ l i HI.out (by unfold okQ okV; rw [he, hp1]; rfl))
          clear hp1
          go_wp2
          have hi3 := HI.out
          have hw : wrap64 ((i : Int) + 1) = ((i + 1 : Nat) : Int) := by
            have := HL40.out
            unfold wrap64
            omega
          rw [hw]
          exact ⟨⟨i + 1, Af, n, cf, rfl, by omega, rfl, ⟨by rw [HN.out]; exact HRF5.out⟩, HBW5⟩, by simp only [intOf, Int.toNat_natCast]; omega⟩
        · have HN := Aside0.mk (take_yesP okQ l i HI.out (by unfold okQ okV; rw [he, hp1]; rfl))
          have HLN := Aside0.mk (show ((l.take i).filter okQ).length ≤ i from by
            have := List.length_filter_le okQ (l.take i)
            rw [List.length_take] at this
            omega)
          clear hp1
          generalize encV (rd_T42 l (i : Int)) = ev at *
          generalize rd_T42 l (i : Int) = xv at *
          go_wp2_with (first | ((with_reducible refine gate_dst (N := 57) rfl ?_); refine Kd.R_lit k42 _ 42 ?hg (N := 57) ?hd (xs := [xv]) (inner := [.int .i64 xv.f0, .int .i64 xv.f1, .int .i64 xv.f2, .int .i64 xv.f3, .int .i64 xv.f4]) (ok := fun _ => True) (okp := fun _ => True) ?hr ?hp (fun _ hk => hk) trivial (Below.refl _ _) (Nat.le_refl _) (by simp) ?_; (case hd => rfl); (case hg => rfl); (case hr => first | (go_simp; done) | (go_simp; rfl)); (case hp => exact (Reps.snoc (Reps.none _ _) (k42_mkM _ _ _ xv) rfl)); intro v35 w6 ho6 hb6 hg6_ hn6_; clear hg6_ hn6_; have HF6 := Aside0.mk (Kd.R_elder' HRF5.out (Kd.R_base ho6) hb6); have HO6 := Aside0.mk (Kd.R_lower (Kd.R_new' ho6 (Kd.R_lt HRF5.out)) (below_size HBW5.out)); have HBW6 := Aside0.mk (below_step HBW5.out hb6); clear hb6 ho6 HRF5 HBW5; obtain ⟨Ao6, co6, eo6⟩ := Kd.R_slice HO6.out; subst eo6) | ((with_reducible refine gate_builtin (b := .append) (xs := #[.tmp 52, .tmp 57]) rfl ?_); at_builtin; refine Kd.R_append_rows k42 (w0 := w1) w1.heap.size rfl (.tmp 52) (.tmp 57) 36 42 (.agg #[.int .i64 0, .int .i64 0, .int .i64 0, .int .i64 0, .int .i64 0]) 40 rfl Tryz.underlying36 inf42 rfl (by decide) (by omega) _ ((l.take i).filter okQ) [xv] _ _ _ (fun k_ => some k_ ≠ (.slice Ao6 ([xv] : List S42).length co6 : Value).ownBlock) (fun _ => False) rfl rfl ?aO ?aR (fun _ _ h => h) (fun _ h => h.elim) ?aF ?aB ?aS ?aL ?_; (case aR => exact (Kd.R_reads' HO6.out).2.2); (case aB => exact HBW6.out); (case aF => exact (fun k_ hk => Kd.fresh' (Kd.R_lt HO6.out) k_ hk)); (case aO => exact Kd.R_mono HF6.out (fun _ hk => hk.2)); (case aS => exact below_size HBW6.out); (case aL => have h1 := HLN.out; have h2 := HI.out; have h3 := HL40.out; simp only [List.length_singleton]; omega); intro v36 w7 ho7 hb7 hg7 hat7; rw [← HN.out] at ho7; have HO7 := Aside0.mk ho7; have HB7 := Aside0.mk hb7; clear ho7 hb7 hg7 hat7))
          obtain ⟨A7, c7, e7⟩ := Kd.R_slice HO7.out
          subst e7
          have hi3 := HI.out
          have hw : wrap64 ((i : Int) + 1) = ((i + 1 : Nat) : Int) := by
            have := HL40.out
            unfold wrap64
            omega
          rw [hw]
          exact ⟨⟨i + 1, A7, _, c7, rfl, by omega, rfl, ⟨Kd.R_mono HO7.out (fun _ _ => trivial)⟩, HB7⟩, by simp only [intOf, Int.toNat_natCast]; omega⟩
    · obtain rfl : i = l.length := by omega
      have HRL := HRF.out
      rw [List.take_length] at HRL
      obtain ⟨Fl, hFl⟩ : ∃ Fl, Fl = l.filter okQ := ⟨_, rfl⟩
      rw [← hFl] at HRL
      have hfq : ∀ x ∈ Fl, okQ x = true := fun x hx => by rw [hFl] at hx; exact (List.mem_filter.1 hx).2
      have hfo : ∀ x ∈ Fl, okV x = true := fun x hx => by
        have h := hfq x hx
        unfold okQ at h
        rw [Bool.and_eq_true] at h
        exact h.1
      have hfl : Fl.length ≤ l.length := by rw [hFl]; exact List.length_filter_le _ _
      have HR := Aside0.mk HRL
      clear HRL HRF hFl
      obtain ⟨A7, c7, e7⟩ := Kd.R_slice HR.out
      injection e7 with e7 e8 e9
      subst e7 e8 e9
      have HBL := Aside0.mk (below_step HB1.out HBW.out)
      have HAO2 := Aside0.mk (blk_below HAO1.out HBW.out)
      have HA2 := Aside0.mk (blk_below HA1.out HBW.out)
      have z0 := blk_cell HA2.out 0
      have z1 := blk_cell HA2.out 1
      have z2 := blk_cell HA2.out 2
      have z3 := blk_cell HA2.out 3
      have z4 := blk_cell HA2.out 4
      have z5 := blk_cell HA2.out 5
      simp only [List.getElem?_toArray, List.getElem?_cons_zero, List.getElem?_cons_succ] at z0 z1 z2 z3 z4 z5
      clear HA2 HA1 HAO1 hlt HBW
      go_wp2_with fail
      refine (Fit.fit cA dA rA sA cc dc rc sc _ _ _ _ fr fu _).mono ?_
      rintro e w8 ⟨rfl, hb8⟩
      have HAO8 := Aside0.mk (blk_below HAO2.out hb8)
      have HB8 := Aside0.mk (below_step HBL.out hb8)
      have HR8 := Aside0.mk (Kd.R_below HR.out hb8)
      have HF := Aside0.mk (fitFu_le fu)
      generalize fitFr fr = fr2 at *
      generalize fitFu fu = fu2 at *
      clear hb8 z0 z1 z2 z3 z4 z5 HR HBL
      go_wp2_with fail
      refine (ravelinref15_Bytes.calls (Fl.length + 101) Af cf Fl _ _ _ _ (Kd.C_below (Kd.R_reads' HR8.out).2.2 (below_alloc (Below.refl _ _) _)) (Kd.R_reads' HR8.out).2.1 (bytes_eq Fl hfo (by have := HL40.out; omega))).mono ?_
      rintro e w9 ⟨v9, rfl, hr9, hb9⟩
      obtain ⟨A9, c9, e9⟩ := Kd.R_slice hr9
      subst e9
      have HAO9 := Aside0.mk (blk_below (blk_below HAO8.out (below_alloc (Below.refl _ _) _)) hb9)
      have hne8 : w.heap.size + 1 ≠ w8.heap.size := by have := blk_lt HAO8.out; omega
      have HB9 := Aside0.mk (below_step (below_alloc HB8.out _) hb9)
      have HE9 := Aside0.mk (blk_below (blk_new w8 (.cells #[.slice cA lc.length cc, .slice dA ld.length dc, .slice rA lr.length rc, .slice sA ls.length sc, .int .i64 fr2, .int .i64 fu2] 25)) hb9)
      have HR9 := Aside0.mk hr9
      clear hb9 hr9 HR8
      have z0 := blk_cell HE9.out 0
      have z1 := blk_cell HE9.out 1
      have z2 := blk_cell HE9.out 2
      have z3 := blk_cell HE9.out 3
      have z4 := blk_cell HE9.out 4
      have z5 := blk_cell HE9.out 5
      have f0 := blk_frozen HE9.out 0
      simp only [List.getElem?_toArray, List.getElem?_cons_zero, List.getElem?_cons_succ] at z0 z1 z2 z3 z4 z5
      have HE9P := Aside0.mk (blk_put (cs' := #[.slice A9 (codeL Fl).length c9, .slice dA ld.length dc, .slice rA lr.length rc, .slice sA ls.length sc, .int .i64 fr2, .int .i64 fu2]) HE9.out 0 (.slice A9 (codeL Fl).length c9) rfl)
      have HO9P := Aside0.mk (blk_far HAO9.out (p := ⟨w8.heap.size, 0, none⟩) hne8 (.slice A9 (codeL Fl).length c9))
      have HB9P := Aside0.mk (HB9.out.setCell (p := ⟨w8.heap.size, 0, none⟩) (below_size HB8.out) (.slice A9 (codeL Fl).length c9))
      have HR9P := Aside0.mk (Kd.R_set HR9.out HE9.out (by decide) 0 (.slice A9 (codeL Fl).length c9))
      have hal := fun (ob : Obj) => below_alloc (Below.refl (w9.setCell ⟨w8.heap.size, 0, none⟩ (.slice A9 (codeL Fl).length c9)).heap.size (w9.setCell ⟨w8.heap.size, 0, none⟩ (.slice A9 (codeL Fl).length c9))) ob
      have o1 : ∀ ob : Obj, ((w9.setCell ⟨w8.heap.size, 0, none⟩ (.slice A9 (codeL Fl).length c9)).alloc ob).cell? ⟨w.heap.size + 1, 1, none⟩ = some (.slice dB md.length kd) := fun ob => kB (hal ob) (by rw [blk_cell HO9P.out 1]; simp only [List.getElem?_toArray, List.getElem?_cons_zero, List.getElem?_cons_succ])
      have o3 : ∀ ob : Obj, ((w9.setCell ⟨w8.heap.size, 0, none⟩ (.slice A9 (codeL Fl).length c9)).alloc ob).cell? ⟨w.heap.size + 1, 3, none⟩ = some (.slice sB ms.length ks) := fun ob => kB (hal ob) (by rw [blk_cell HO9P.out 3]; simp only [List.getElem?_toArray, List.getElem?_cons_zero, List.getElem?_cons_succ])
      have q0 : ∀ ob : Obj, ((w9.setCell ⟨w8.heap.size, 0, none⟩ (.slice A9 (codeL Fl).length c9)).alloc ob).cell? ⟨w8.heap.size, 0, none⟩ = some (.slice A9 (codeL Fl).length c9) := fun ob => kB (hal ob) (by rw [blk_cell HE9P.out 0]; simp only [List.getElem?_toArray, List.getElem?_cons_zero, List.getElem?_cons_succ])
      have q1 : ∀ ob : Obj, ((w9.setCell ⟨w8.heap.size, 0, none⟩ (.slice A9 (codeL Fl).length c9)).alloc ob).cell? ⟨w8.heap.size, 1, none⟩ = some (.slice dA ld.length dc) := fun ob => kB (hal ob) (by rw [blk_cell HE9P.out 1]; simp only [List.getElem?_toArray, List.getElem?_cons_zero, List.getElem?_cons_succ])
      have q2 : ∀ ob : Obj, ((w9.setCell ⟨w8.heap.size, 0, none⟩ (.slice A9 (codeL Fl).length c9)).alloc ob).cell? ⟨w8.heap.size, 2, none⟩ = some (.slice rA lr.length rc) := fun ob => kB (hal ob) (by rw [blk_cell HE9P.out 2]; simp only [List.getElem?_toArray, List.getElem?_cons_zero, List.getElem?_cons_succ])
      have q3 : ∀ ob : Obj, ((w9.setCell ⟨w8.heap.size, 0, none⟩ (.slice A9 (codeL Fl).length c9)).alloc ob).cell? ⟨w8.heap.size, 3, none⟩ = some (.slice sA ls.length sc) := fun ob => kB (hal ob) (by rw [blk_cell HE9P.out 3]; simp only [List.getElem?_toArray, List.getElem?_cons_zero, List.getElem?_cons_succ])
      have q4 : ∀ ob : Obj, ((w9.setCell ⟨w8.heap.size, 0, none⟩ (.slice A9 (codeL Fl).length c9)).alloc ob).cell? ⟨w8.heap.size, 4, none⟩ = some (.int .i64 fr2) := fun ob => kB (hal ob) (by rw [blk_cell HE9P.out 4]; simp only [List.getElem?_toArray, List.getElem?_cons_zero, List.getElem?_cons_succ])
      have q5 : ∀ ob : Obj, ((w9.setCell ⟨w8.heap.size, 0, none⟩ (.slice A9 (codeL Fl).length c9)).alloc ob).cell? ⟨w8.heap.size, 5, none⟩ = some (.int .i64 fu2) := fun ob => kB (hal ob) (by rw [blk_cell HE9P.out 5]; simp only [List.getElem?_toArray, List.getElem?_cons_zero, List.getElem?_cons_succ])
      go_wp2_with fail
      have HX10 := Aside0.mk (blk_new (w9.setCell ⟨w8.heap.size, 0, none⟩ (.slice A9 (codeL Fl).length c9)) (.cells #[.slice A9 (codeL Fl).length c9, .slice dB md.length kd, .slice rA lr.length rc, .slice sB ms.length ks, .int .i64 fr2, .int .i64 fu2] 25))
      have HB10 := Aside0.mk (below_alloc HB9P.out (.cells #[.slice A9 (codeL Fl).length c9, .slice dB md.length kd, .slice rA lr.length rc, .slice sB ms.length ks, .int .i64 fr2, .int .i64 fu2] 25))
      have HR10 := Aside0.mk (Kd.R_below HR9P.out (hal (.cells #[.slice A9 (codeL Fl).length c9, .slice dB md.length kd, .slice rA lr.length rc, .slice sB ms.length ks, .int .i64 fr2, .int .i64 fu2] 25)))
      clear hal o1 o3 q0 q1 q2 q3 q4 q5 z0 z1 z2 z3 z4 z5 f0 HE9P HO9P HAO9 HAO8 hne8 HB9P HR9P HB9 HR9 HE9
      rw [World.size_setCell] at HX10
      have e10 := HE.out.below HB10.out
      have HCL := Aside0.mk (show (codeL Fl).length ≤ 140737488355328 from by rw [codeL_len]; have := HL40.out; omega)
      refine (ERun.runs A9 dA rA sA c9 dc rc sc (codeL Fl) ld ls lr fr2 fu2 _ (Kd.R_reads' HR10.out).2.2 HCL.out e10.hd e10.hr e10.hs (codeL_bytes Fl) e10.bd e10.bs e10.wr HF.out).mono ?_
      rintro e w11 ⟨m, vr, vt, hm, rfl, hr, ht, hb11⟩
      obtain ⟨Ar, cr, ear⟩ := Kd.R_slice hr
      obtain ⟨At, ct, eat⟩ := Kd.R_slice ht
      subst ear eat
      have HM := Aside0.mk hm
      have HQ := Aside0.mk (run_quiet Fl hfq ld lr ls md ms fr2 fu2)
      have hbo := below_alloc (Below.refl w11.heap.size w11) (.cells #[.int .i64 m.err, .int .i64 (atOf m), .int .i64 m.steps, .slice Ar (regsOf m).length cr, .slice At m.tr.length ct] 31)
      have hb12 := below_step hb11 hbo
      have HB12 := Aside0.mk (below_step HB10.out hb12)
      have HX12 := Aside0.mk (blk_below HX10.out hb12)
      have HR12 := Aside0.mk (Kd.R_below HR10.out hb12)
      have HRR := Aside0.mk (Kd.R_below hr hbo)
      have HRT := Aside0.mk (Kd.R_below ht hbo)
      have HO12 := Aside0.mk (blk_new w11 (.cells #[.int .i64 m.err, .int .i64 (atOf m), .int .i64 m.steps, .slice Ar (regsOf m).length cr, .slice At m.tr.length ct] 31))
      have x0 := blk_cell HX12.out 0
      have x1 := blk_cell HX12.out 1
      have x2 := blk_cell HX12.out 2
      have x3 := blk_cell HX12.out 3
      have x4 := blk_cell HX12.out 4
      have x5 := blk_cell HX12.out 5
      simp only [List.getElem?_toArray, List.getElem?_cons_zero, List.getElem?_cons_succ] at x0 x1 x2 x3 x4 x5
      clear hb11 hb12 hbo hr ht hm e10 HB10 HR10 HX10
      go_wp2_with fail
      generalize (w11.alloc (.cells #[.int .i64 m.err, .int .i64 (atOf m), .int .i64 m.steps, .slice Ar (regsOf m).length cr, .slice At m.tr.length ct] 31)) = W12 at *
      generalize w11.heap.size = go at *
      have e12 := HE.out.below HB12.out
      have g12 := HE2.out.below HB12.out
      refine (ERun.runs A9 dB rA sB c9 kd rc ks (codeL Fl) md ms lr fr2 fu2 _ (Kd.R_reads' HR12.out).2.2 HCL.out g12.hd e12.hr g12.hs (codeL_bytes Fl) g12.bd g12.bs e12.wr HF.out).mono ?_
      rintro e w13 ⟨m2, vr2, vt2, hm2, rfl, hr2, ht2, hb13⟩
      obtain ⟨Ar2, cr2, ear2⟩ := Kd.R_slice hr2
      obtain ⟨At2, ct2, eat2⟩ := Kd.R_slice ht2
      subst ear2 eat2
      have hbo2 := below_alloc (Below.refl w13.heap.size w13) (.cells #[.int .i64 m2.err, .int .i64 (atOf m2), .int .i64 m2.steps, .slice Ar2 (regsOf m2).length cr2, .slice At2 m2.tr.length ct2] 31)
      have hb14 := below_step hb13 hbo2
      have HB14 := Aside0.mk (below_step HB12.out hb14)
      have HO14 := Aside0.mk (blk_below HO12.out hb14)
      have HP14 := Aside0.mk (blk_new w13 (.cells #[.int .i64 m2.err, .int .i64 (atOf m2), .int .i64 m2.steps, .slice Ar2 (regsOf m2).length cr2, .slice At2 m2.tr.length ct2] 31))
      have HRR4 := Aside0.mk (Kd.R_below HRR.out hb14)
      have HRT4 := Aside0.mk (Kd.R_below HRT.out hb14)
      have HSR4 := Aside0.mk (Kd.R_below hr2 hbo2)
      have HST4 := Aside0.mk (Kd.R_below ht2 hbo2)
      have y0 := blk_cell HO14.out 0
      have y1 := blk_cell HO14.out 1
      have y2 := blk_cell HO14.out 2
      have y3 := blk_cell HO14.out 3
      have y4 := blk_cell HO14.out 4
      simp only [List.getElem?_toArray, List.getElem?_cons_zero, List.getElem?_cons_succ] at y0 y1 y2 y3 y4
      have hu31 := Tryz.underlying31
      obtain ⟨d9, f9, eq2, etr⟩ := HQ.out
      rw [← hm2, ← HM.out] at eq2
      rw [← HM.out] at etr
      have HTR := Aside0.mk etr
      have HSAME := Aside0.mk (ravelinref16_Same.calls ((regsOf m).length + m.tr.length + 10) m.err (atOf m) m.steps Ar cr (regsOf m) At ct m.tr m2.err (atOf m2) m2.steps Ar2 cr2 (regsOf m2) At2 ct2 m2.tr true _ (Kd.R_reads' HRR4.out).2.2 (Kd.R_reads' HRR4.out).2.1 (Kd.R_reads' HRT4.out).2.2 (Kd.R_reads' HRT4.out).2.1 (Kd.R_reads' HSR4.out).2.2 (Kd.R_reads' HSR4.out).2.1 (Kd.R_reads' HST4.out).2.2 (Kd.R_reads' HST4.out).2.1 (by rw [eq2]; exact same_eq _ _ _ _ _ (by rw [regs_len]; omega) (by rw [etr]; exact Nat.zero_le _)))
      clear hb13 hb14 hbo2 hr2 ht2 hm2 e12 g12 x0 x1 x2 x3 x4 x5 eq2 etr HX12 HR12 HRR HRT HO12 HB12
      go_wp2_with fail
      refine HSAME.out.mono ?_
      rintro e w15 ⟨rfl, hb15⟩
      have HB15 := Aside0.mk (below_step HB14.out hb15)
      have u4 := kB hb15 y4
      have ht0 : ((m.tr.length : Int) == 0) = true := by rw [HTR.out]; rfl
      have ht1 : ((m.tr.length : Int) = 0) = True := eq_true (by rw [HTR.out]; rfl)
      clear hb15
      go_wp2_with fail
      go_ret
      exact ⟨rfl, HB15.out⟩
end Go.Proofs.YtcgkgaibomcheaaGreat.QuietL
end

section
/- The given row of RvemuQuiet, proved: for every list of instructions and every two entries the law returns true, and its arguments read as they read before. Conditions: none beyond those of the row. -/
namespace Go.Proofs.YtcgkgaibomcheaaGreat.rvemuQuiet
open Go.ChangeShapes Go.WideShapes Go.ChangeAt Go.RowKit Go.Deep Go.Joins
open Go.ChangeMaps (open_string shut_string)
set_option linter.unusedVariables false
set_option linter.unusedSimpArgs false
theorem own : ownKnob Tryz.prog.godebug = none := by kernel_rfl
theorem laidOut : laidOutB Tryz.prog = true := by kernel_rfl
set_option maxRecDepth 100000 in
theorem law {H : Type} {enc : TypeId × Value → H} (W : World) (v0 : Value) (d0 : DataW H) (p0 : List MemPlace) (v1 : Value) (d1 : DataW H) (p1 : List MemPlace) (v2 : Value) (d2 : DataW H) (p2 : List MemPlace) (h0 : DataW.Trod enc Tryz.prog W 0 (fun _ => true) true 36 v0 d0 p0) (o0 : Value.okWide Tryz.prog W .any 0 36 v0) (h1 : DataW.Trod enc Tryz.prog W 0 (fun _ => true) true 25 v1 d1 p1) (o1 : Value.okWide Tryz.prog W .any 0 25 v1) (h2 : DataW.Trod enc Tryz.prog W 0 (fun _ => true) true 25 v2 d2 p2) (o2 : Value.okWide Tryz.prog W .any 0 25 v2) (hsz : (DataW.weightsEach Tryz.prog [36, 25, 25] [d0, d1, d2]).all (· ≤ reachBytes) = true) :
    Calls Tryz.prog 7 #[v0, v1, v2] W fun e w' => e = .returned (.bool true) ∧ Below W.heap.size W w' := by
  have h3 := hsz
  simp only [DataW.weightsEach, List.all_append, Bool.and_eq_true] at h3
  obtain ⟨lA, c0, l, rfl, hlc, h40, hl, _⟩ := OpenRv.open_list hsz (j := 0) rfl rfl o0 h0
  obtain ⟨cA, dA, rA, sA, cc, dc, rc, sc, lc, ld, ls, lr, fr, fu, rfl, he, _, _, _, _, _, _⟩ := OpenEnv.open_env o1 h1 h3.2.1
  obtain ⟨cB, dB, rB, sB, kc, kd, kr, ks, mc, md, ms, mr, gr, gu, rfl, he2, _, _, _, _, _, _⟩ := OpenEnv.open_env o2 h2 h3.2.2.1
  exact QuietL.walk lA c0 l W hl hlc (by omega) cA dA rA sA cc dc rc sc lc ld ls lr fr fu cB dB rB sB kc kd kr ks mc md ms mr gr gu he2 he
set_option maxRecDepth 100000 in
theorem lifted (os : Os) (started : os.Started) (H : Type) (enc : TypeId × Value → H) :
    ReturnsInHanded {} Tryz.checked os 7 .any (Rows.rvemuQuietSpec.pre6 enc Tryz.prog Tryz.f7 Rows.rvemuQuietRow.domain false) (Rows.rvemuQuietSpec.post enc Tryz.prog Tryz.f7 false true false false) := by
  refine returnsInHanded_of_change_sized (C := Tryz.checked) own started (by kernel_rfl) Tryz.func7
    (ChangeSpec.witness6 (enc := enc) (C := Tryz.checked) false ⟨#[], #[.slice none 0 0, .agg #[.slice none 0 0, .slice none 0 0, .slice none 0 0, .slice none 0 0, .int .i64 0, .int .i64 0], .agg #[.slice none 0 0, .slice none 0 0, .slice none 0 0, .slice none 0 0, .int .i64 0, .int .i64 0]], []⟩ 8 (by kernel_rfl) (by kernel_rfl) (by kernel_rfl) (by kernel_rfl)) ?_
  intro W base args ds gs before hval0 hW hcnd hsz0 _
  have hsz : (DataW.weightsEach Tryz.prog (Tryz.f7.params.toList ++ Rows.rvemuQuietSpec.plain.varTypes Tryz.prog) (ds ++ gs)).all (· ≤ reachBytes) = true := hsz0
  have hval : ∀ (j : Nat) t v, Tryz.f7.params[j]? = some t → args[j]? = some v → Value.okWide Tryz.prog W .any base t v := hval0
  have hW' := hW
  obtain ⟨p, q, hA0, hV, rfl, hfz, hnd⟩ := hW
  have hA : DataW.TrodAll enc Tryz.prog W 0 (fun _ => true) true Tryz.f7.params.toList args.toList ds p := hA0
  rw [Tryz.params7] at hA hval hsz
  obtain ⟨v0, vs0, d0, ds0, p0, q0, hargs, rfl, rfl, h0, r0⟩ := trodAll_cons hA
  obtain ⟨v1, vs1, d1, ds1, p1, q1, rfl, rfl, rfl, h1, r1⟩ := trodAll_cons r0
  obtain ⟨v2, vs2, d2, ds2, p2, q2, rfl, rfl, rfl, h2, r2⟩ := trodAll_cons r1
  obtain ⟨rfl, rfl, rfl⟩ := trodAll_nil r2
  obtain rfl : args = #[v0, v1, v2] := by cases args; simp_all
  obtain ⟨rfl, rfl⟩ := trodVars_none hV
  have k0 := h0
  have lt0 : ∀ x ∈ p0, x.block < W.heap.size := by obtain ⟨m, hm⟩ := k0; exact DataW.trod_lt m _ _ _ hm
  have k1 := h1
  have lt1 : ∀ x ∈ p1, x.block < W.heap.size := by obtain ⟨m, hm⟩ := k1; exact DataW.trod_lt m _ _ _ hm
  have k2 := h2
  have lt2 : ∀ x ∈ p2, x.block < W.heap.size := by obtain ⟨m, hm⟩ := k2; exact DataW.trod_lt m _ _ _ hm
  refine (law (enc := enc) W v0 d0 p0 v1 d1 p1 v2 d2 p2 h0 (hval 0 36 v0 rfl rfl) h1 (hval 1 25 v1 rfl rfl) h2 (hval 2 25 v2 rfl rfl) hsz).mono fun e W' ⟨he, bel⟩ => ?_
  subst he
  exact ⟨_, rfl, _, _, _, [], _, [], hW', trodAll_mk1 (shut_bool Tryz.underlying4 _), (trodAll_cons_mk (Below.trod laidOut (by kernel_rfl) (of_decide_eq_true (by kernel_rfl)) k0 bel lt0) (trodAll_cons_mk (Below.trod laidOut (by kernel_rfl) (of_decide_eq_true (by kernel_rfl)) k1 bel lt1) (trodAll_cons_mk (Below.trod laidOut (by kernel_rfl) (of_decide_eq_true (by kernel_rfl)) k2 bel lt2) trodAll_mk0))), rfl, bel.frame _, fun h => by cases h⟩
theorem over : Rows.rvemuQuietRow.holds Tryz.pinned (OpenSpec.ofChange Rows.rvemuQuietSpec) :=
  OpenClaim.holds_of_wide 7 Tryz.f7 rfl rfl rfl rfl rfl rfl rfl ⟨rfl, rfl, rfl, rfl, rfl⟩ rfl rfl rfl rfl rfl (by kernel_rfl) Tryz.func7 (by kernel_rfl)
    (of_decide_eq_true (by kernel_rfl)) (by unfold Func.isWrapper; first | (rw [if_pos (by decide +kernel)]; kernel_rfl) | (rw [if_neg (by decide +kernel)]; exact ⟨rfl, rfl⟩))
    (fun os started H enc _ => lifted os started H enc)
end Go.Proofs.YtcgkgaibomcheaaGreat.rvemuQuiet
namespace Go.Proofs.YtcgkgaibomcheaaGreat
/-- The row, under a short name, for the claim. -/
theorem rvemuQuiet_holds : Rows.RvemuQuietSaid := rvemuQuiet.over
end Go.Proofs.YtcgkgaibomcheaaGreat
end

section

end
