/- Joined out of this claim's texts: Conf, AccessL, RowRvemuAccess, PRvemuRunsx1. Conditions: those of each theorem. -/
import Derived.Test.YtcgkgaibomcheaaGreatZB12
import Derived.Test.YtcgkgaibomcheaaGreatZB14
import Derived.Test.YtcgkgaibomcheaaGreatRows
import Derived.WalkKit
import Derived.ProofKit
import Derived.OpenShut
import Derived.ShutString
import Derived.ChangeOld
import Derived.Below
import Derived.SizedLaws
import Derived.Lib.SmallJoins
import Derived.Deep.Slices
import Derived.Deep.Fields
import Derived.ChangeSame
import Derived.Test.YtcgkgaibomcheaaGreatZB03
section
/- The document's Confined answers yes where each access lies where it may. Conditions: those of the theorem. -/
namespace Go.Proofs.YtcgkgaibomcheaaGreat.Conf
open Go.RowKit Go.Proofs.YtcgkgaibomcheaaGreat.Bits Go.Proofs.YtcgkgaibomcheaaGreat.Mac Go.Proofs.YtcgkgaibomcheaaGreat.Mb Go.Proofs.YtcgkgaibomcheaaGreat.Rd Go.Proofs.YtcgkgaibomcheaaGreat.RDec Go.Proofs.YtcgkgaibomcheaaGreat.RLoad Go.Proofs.YtcgkgaibomcheaaGreat.Pure Go.Proofs.YtcgkgaibomcheaaGreat.PRvemuRuns Go.Proofs.YtcgkgaibomcheaaGreatW.PrintWords Go.Proofs.YtcgkgaibomcheaaGreatW.PrintLast Go.Proofs.YtcgkgaibomcheaaGreatW.PrintMore
theorem max2_mx (k k' : IntKind) (x y : Int) : Builtin.max2 (.int k x) (.int k' y) = pure (.int k (mx x y)) := max2_int k k' x y
attribute [local go_sem] max2_mx max_two
set_option linter.unusedVariables false
set_option linter.unusedSimpArgs false
/-- What the document's two questions answer. -/
theorem asks (fr : Int) (h0 : 0 ≤ fr) (h1 : fr ≤ 1048576) (e : S54) (h : Fine fr.toNat e) : ∃ d s : Bool, ravelinref16_within.f e.f1 e.f2 65536 64 = some d ∧ ravelinref16_within.f e.f1 e.f2 (2147418112 - fr) fr = some s ∧ (s = true ∨ (e.f0 = false ∧ d = true)) := by
  obtain ⟨hs, hp⟩ := h
  have hn1 : 1 ≤ e.f2 := by rcases hs with h | h <;> omega
  have hn8 : e.f2 ≤ 8 := by rcases hs with h | h <;> omega
  have hb : 0 ≤ e.f1 ∧ e.f1 < 18446744073709551616 := by
    rcases hp with ⟨_, h⟩ | h
    · have := of_decide_eq_true h; omega
    · have := of_decide_eq_true h; omega
  refine ⟨_, _, within_eq _ _ _ _ hb.1 hb.2 hn1 hn8 (by omega) (by omega) (by omega), within_eq _ _ _ _ hb.1 hb.2 hn1 hn8 (by omega) (by omega) (by omega), ?_⟩
  rcases hp with ⟨h2, h⟩ | h
  · have := of_decide_eq_true h
    exact .inr ⟨h2, decide_eq_true (by omega)⟩
  · have := of_decide_eq_true h
    exact .inl (decide_eq_true (by omega))
theorem mx0 {fr : Int} (h : 0 ≤ fr) : mx 0 fr = fr := by unfold mx; split <;> omega
set_option maxRecDepth 20000 in
set_option maxHeartbeats 1000000 in
theorem conf (cA dA rA sA Ar : Option Addr) (nC nD nR nS cc dc rc sc nr cr : Nat) (fr fu o0 o1 o2 : Int) (At : Option Addr) (ct : Nat) (tr : List S54) (w : World) (ht : k54.C w At tr.length tr) (htl : tr.length ≤ 1000000) (hb : tr ≠ [] → 0 ≤ fr ∧ fr ≤ 1048576) (hf : ∀ e ∈ tr, Fine fr.toNat e) :
    Calls Tryz.prog 27 #[.agg #[.slice cA nC cc, .slice dA nD dc, .slice rA nR rc, .slice sA nS sc, .int .i64 fr, .int .i64 fu], .agg #[.int .i64 o0, .int .i64 o1, .int .i64 o2, .slice Ar nr cr, .slice At tr.length ct]] w fun e w' => e = .returned (.bool true) ∧ Below w.heap.size w w' := by
  have hu25 := Tryz.underlying25
  have hu31 := Tryz.underlying31
  have hu54 := Tryz.underlying54
  have HT := Aside0.mk ht
  have HTL := Aside0.mk htl
  have HB := Aside0.mk hb
  have HF := Aside0.mk hf
  have HQ := Aside0.mk (show 0 ≤ fr → mx 0 fr = fr from fun h => mx0 h)
  have HFR := Aside0.mk (show 0 ≤ fr → fr ≤ 1048576 → IntKind.u64.wrap (2147418112 - IntKind.u64.wrap fr) = 2147418112 - fr from fun h h2 => by
    have e : ∀ v : Int, IntKind.u64.wrap v = v % 18446744073709551616 := fun v => rfl
    rw [e, e]
    omega)
  clear ht htl hb hf
  go_enter Tryz.func27, Tryz.ntmps27
  go_wp2_with fail
  have hbx := below_alloc (below_alloc (Below.refl w.heap.size w) (.cells #[.slice cA nC cc, .slice dA nD dc, .slice rA nR rc, .slice sA nS sc, .int .i64 fr, .int .i64 fu] 25)) (.cells #[.int .i64 o0, .int .i64 o1, .int .i64 o2, .slice Ar nr cr, .slice At tr.length ct] 31)
  have HBX := Aside0.mk hbx
  have HG1 := Aside0.mk (blk_below (blk_new w (.cells #[.slice cA nC cc, .slice dA nD dc, .slice rA nR rc, .slice sA nS sc, .int .i64 fr, .int .i64 fu] 25)) (below_alloc (Below.refl _ _) (.cells #[.int .i64 o0, .int .i64 o1, .int .i64 o2, .slice Ar nr cr, .slice At tr.length ct] 31)))
  have HG2 := Aside0.mk (blk_new (w.alloc (.cells #[.slice cA nC cc, .slice dA nD dc, .slice rA nR rc, .slice sA nS sc, .int .i64 fr, .int .i64 fu] 25)) (.cells #[.int .i64 o0, .int .i64 o1, .int .i64 o2, .slice Ar nr cr, .slice At tr.length ct] 31))
  simp only [World.size_alloc] at HG2
  have HTO := Aside0.mk (Kd.C_below HT.out hbx)
  have HF2 := Aside0.mk (show 0 ≤ fr → fr ≤ 1048576 → IntKind.u64.wrap (2147418112 - IntKind.u64.wrap (mx 0 fr)) = 2147418112 - fr from fun h h2 => by rw [HQ.out h]; exact HFR.out h h2)
  generalize IntKind.u64.wrap (2147418112 - IntKind.u64.wrap (mx 0 fr)) = F at *
  clear hbx HFR HT
  generalize ((w.alloc (.cells #[.slice cA nC cc, .slice dA nD dc, .slice rA nR rc, .slice sA nS sc, .int .i64 fr, .int .i64 fu] 25)).alloc (.cells #[.int .i64 o0, .int .i64 o1, .int .i64 o2, .slice Ar nr cr, .slice At tr.length ct] 31)) = Wo at *
  go_loopw [6] (fun v6 W => ∃ k : Nat, v6 = .int .i64 (k : Int) ∧ k ≤ tr.length ∧ Aside0 (Below Wo.heap.size Wo W)) (fun v6 _ => tr.length - (intOf v6).toNat)
  case atStart => exact ⟨0, rfl, by omega, ⟨Below.refl _ _⟩⟩
  case round =>
    obtain ⟨k, rfl, hk, HBQ⟩ := hrel
    have hO := blk_below HG2.out HBQ.out
    have hE := blk_below HG1.out HBQ.out
    have y4 := blk_cell hO 4
    have z4 := blk_cell hE 4
    simp only [List.getElem?_toArray, List.getElem?_cons_zero, List.getElem?_cons_succ] at y4 z4
    clear hO hE
    have z4o := fun (o : Obj) => kB (below_alloc (Below.refl wr.heap.size wr) o) z4
    have HWO := Aside0.mk (fun (o : Obj) => below_alloc HBQ.out o)
    by_cases hlt : k < tr.length
    · have t1 : decide ((k : Int) < (tr.length : Int)) = true := decide_eq_true (by omega)
      have u1 : ((k : Int) < (tr.length : Int)) = True := eq_true (by omega)
      have u2 : (0 ≤ (k : Int)) = True := eq_true (by omega)
      have hne : tr ≠ [] := fun e => by rw [e] at hlt; exact absurd hlt (Nat.not_lt_zero _)
      obtain ⟨hf0, hf1⟩ := HB.out hne
      have ee : rd_T54 tr (k : Int) = tr[k] := by
        show tr.getD k z54 = _
        rw [List.getD_eq_getElem?_getD, List.getElem?_eq_getElem hlt]
        rfl
      have hfi := HF.out _ (List.getElem_mem hlt)
      rw [← ee] at hfi
      obtain ⟨d, s, hd, hs, hds⟩ := asks fr hf0 hf1 _ hfi
      rw [← HF2.out hf0 hf1, show fr = mx 0 fr from (HQ.out hf0).symm] at hs
      rw [HQ.out hf0] at hs
      have HD := Aside0.mk hd
      have HS := Aside0.mk (show ravelinref16_within.f _ _ F (mx 0 fr) = some s from by rw [HQ.out hf0]; exact hs)
      obtain ⟨ad, rfl, x0, x1, x2⟩ := at_T54 (Kd.C_below HTO.out HBQ.out) (k : Int) (by omega) (by omega)
      simp only [Int.toNat_natCast] at x0 x1 x2
      have HK := Aside0.mk hlt
      clear hlt hd hs hfi hf0 hf1 hne ee
      generalize rd_T54 tr (k : Int) = ev at *
      obtain ⟨e0, e1, e2⟩ := ev
      simp only at x0 x1 x2 HD HS hds
      cases e0 with
      | true =>
        have hs : s = true := by rcases hds with h | ⟨h, _⟩; exact h; cases h
        subst hs
        clear hds
        go_wp2_with fail
        refine (ravelinref16_within.calls _ _ _ _ true _ HS.out).mono ?_
        rintro e w7 ⟨rfl, nd, rfl⟩
        go_wp2_with fail
        have hi3 := HK.out
        have hw : wrap64 ((k : Int) + 1) = ((k + 1 : Nat) : Int) := by
          have := HTL.out
          unfold wrap64
          omega
        rw [hw]
        exact ⟨⟨k + 1, rfl, by omega, ⟨pw_below_drewN (HWO.out _) _⟩⟩, by simp only [intOf, Int.toNat_natCast]; omega⟩
      | false =>
        go_wp2_with fail
        refine (ravelinref16_within.calls _ _ _ _ d _ HD.out).mono ?_
        rintro e w7 ⟨rfl, nd, rfl⟩
        go_wp2_with fail
        refine (ravelinref16_within.calls _ _ _ _ s _ HS.out).mono ?_
        rintro e w7 ⟨rfl, nd2, rfl⟩
        cases d with
        | true =>
          go_wp2_with fail
          have hi3 := HK.out
          have hw : wrap64 ((k : Int) + 1) = ((k + 1 : Nat) : Int) := by
            have := HTL.out
            unfold wrap64
            omega
          rw [hw]
          exact ⟨⟨k + 1, rfl, by omega, ⟨pw_below_drewN (HWO.out _) _⟩⟩, by simp only [intOf, Int.toNat_natCast]; omega⟩
        | false =>
          have hs : s = true := by rcases hds with h | ⟨_, h⟩; exact h; cases h
          subst hs
          go_wp2_with fail
          have hi3 := HK.out
          have hw : wrap64 ((k : Int) + 1) = ((k + 1 : Nat) : Int) := by
            have := HTL.out
            unfold wrap64
            omega
          rw [hw]
          exact ⟨⟨k + 1, rfl, by omega, ⟨pw_below_drewN (HWO.out _) _⟩⟩, by simp only [intOf, Int.toNat_natCast]; omega⟩
    · have t1 : decide ((k : Int) < (tr.length : Int)) = false := decide_eq_false (by omega)
      have u1 : ((k : Int) < (tr.length : Int)) = False := eq_false (by omega)
      have HBF := Aside0.mk (below_step HBX.out HBQ.out)
      clear hlt
      go_wp2_with fail
      go_ret
      exact ⟨rfl, HBF.out⟩
end Go.Proofs.YtcgkgaibomcheaaGreat.Conf
end

section
/- The law RvemuAccess. Conditions: the list and the entry can be read. -/
namespace Go.Proofs.YtcgkgaibomcheaaGreat.AccessL
open Go.RowKit Go.Proofs.YtcgkgaibomcheaaGreat.Bits Go.Proofs.YtcgkgaibomcheaaGreat.Mac Go.Proofs.YtcgkgaibomcheaaGreat.Mb Go.Proofs.YtcgkgaibomcheaaGreat.Rd Go.Proofs.YtcgkgaibomcheaaGreat.RDec Go.Proofs.YtcgkgaibomcheaaGreat.EM Go.Proofs.YtcgkgaibomcheaaGreat.EOut Go.Proofs.YtcgkgaibomcheaaGreat.NewM Go.Proofs.YtcgkgaibomcheaaGreat.Pure Go.Proofs.YtcgkgaibomcheaaGreat.Goes Go.Proofs.YtcgkgaibomcheaaGreat.Fit Go.Proofs.YtcgkgaibomcheaaGreat.FineP Go.Proofs.YtcgkgaibomcheaaGreat.Conf Go.Proofs.YtcgkgaibomcheaaGreat.EndsL Go.Proofs.YtcgkgaibomcheaaGreat.PRvemuRuns Go.Proofs.YtcgkgaibomcheaaGreatW.PrintWords Go.Proofs.YtcgkgaibomcheaaGreatW.PrintLast Go.Proofs.YtcgkgaibomcheaaGreatW.PrintMore
attribute [local go_sem] max2_int min2_int max_two min_two
set_option linter.unusedVariables false
set_option linter.unusedSimpArgs false
theorem inf42 : (Tryz.prog.info? 42).map (fun i => (i.zero, i.size, i.bytes)) = some (some (.agg #[.int .i64 0, .int .i64 0, .int .i64 0, .int .i64 0, .int .i64 0]), 5, 40) := by kernel_rfl
theorem acc (lc ld lr ls : List Int) (fr fu : Int) {m : Mac} (hm : m = runM (newM lc ld lr ls fr fu)) (hfu : fu ≤ 1000000) : (m.tr ≠ [] → 0 ≤ fr ∧ fr ≤ 1048576) ∧ (∀ e ∈ m.tr, Fine fr.toNat e) ∧ m.tr.length ≤ 1000000 := by
  have h := inv_it (inv_new lc ld lr ls fr fu) ((newM lc ld lr ls fr fu).fuel.toNat + 1)
  have e : it ((newM lc ld lr ls fr fu).fuel.toNat + 1) (newM lc ld lr ls fr fu) = m := hm.symm
  rw [e] at h
  have hst := h.steps
  have hmx := h.max
  have hfl := h.fuel
  have htr := h.tr
  rw [new_fuel] at hfl
  by_cases hb : bad fr
  · have ed : (newM lc ld lr ls fr fu).done = true := by unfold newM; rw [if_pos hb]
    have e0 : m = newM lc ld lr ls fr fu := hm.trans (runM_of _ (new_steps lc ld lr ls fr fu) (k := 0) ed)
    have et : m.tr = [] := by rw [e0]; unfold newM; rw [if_pos hb]; rfl
    refine ⟨fun h => absurd et h, by rw [et]; simp, by rw [et]; simp⟩
  · have el : (newM lc ld lr ls fr fu).frame.length = fr.toNat := by unfold newM; rw [if_neg hb]; exact Fill.pad_len _ _
    have hf := h.fine
    rw [el] at hf
    refine ⟨fun _ => by unfold bad at hb; omega, hf, by omega⟩
theorem take_yes (l : List S42) (i : Nat) (hi : i < l.length) (h : okV (rd_T42 l (i : Int)) = true) : (l.take (i + 1)).filter okV = (l.take i).filter okV ++ [rd_T42 l (i : Int)] := by
  have e : rd_T42 l (i : Int) = l[i] := by
    show l.getD i z42 = _
    rw [List.getD_eq_getElem?_getD, List.getElem?_eq_getElem hi]
    rfl
  rw [e] at h ⊢
  rw [List.take_succ_eq_append_getElem hi, List.filter_append, List.filter_cons_of_pos h]
  rfl
theorem take_no (l : List S42) (i : Nat) (hi : i < l.length) (h : okV (rd_T42 l (i : Int)) = false) : (l.take (i + 1)).filter okV = (l.take i).filter okV := by
  have e : rd_T42 l (i : Int) = l[i] := by
    show l.getD i z42 = _
    rw [List.getD_eq_getElem?_getD, List.getElem?_eq_getElem hi]
    rfl
  rw [e] at h
  rw [List.take_succ_eq_append_getElem hi, List.filter_append, List.filter_cons_of_neg (by rw [h]; decide), List.filter_nil, List.append_nil]
set_option maxRecDepth 20000 in
set_option maxHeartbeats 1000000 in
theorem walk (lA : Option Addr) (c0 : Nat) (l : List S42) (w : World) (hl : k42.C w lA l.length l) (hlc : l.length ≤ c0) (hl40 : l.length * 40 ≤ 140737488355328) (cA dA rA sA : Option Addr) (cc dc rc sc : Nat) (lc ld ls lr : List Int) (fr fu : Int) (h : EnvAt w cA dA rA sA cc dc rc sc lc ld ls lr) :
    Calls Tryz.prog 8 #[.slice lA l.length c0, .agg #[.slice cA lc.length cc, .slice dA ld.length dc, .slice rA lr.length rc, .slice sA ls.length sc, .int .i64 fr, .int .i64 fu]] w fun e w' => e = .returned (.bool true) ∧ Below w.heap.size w w' := by
  have hbA := below_alloc (Below.refl w.heap.size w) (.cells #[.slice cA lc.length cc, .slice dA ld.length dc, .slice rA lr.length rc, .slice sA ls.length sc, .int .i64 fr, .int .i64 fu] 25)
  have HA := Aside0.mk (blk_new w (.cells #[.slice cA lc.length cc, .slice dA ld.length dc, .slice rA lr.length rc, .slice sA ls.length sc, .int .i64 fr, .int .i64 fu] 25))
  have hu42 := Tryz.underlying42
  have HE := Aside0.mk h
  have HB := Aside0.mk hbA
  have HL := Aside0.mk hl
  have HLC := Aside0.mk hlc
  have HL40 := Aside0.mk hl40
  clear h hbA hl hlc hl40
  go_enter Tryz.func8, Tryz.ntmps8
  go_wp2_with fail
  refine (Head.head _).mono ?_
  rintro e w1 ⟨rfl, hb1⟩
  have HA1 := Aside0.mk (blk_below HA.out hb1)
  have HB1 := Aside0.mk (below_step HB.out hb1)
  clear hb1 HA HB
  go_wp2_with fail
  go_loopw [6, 7] (fun v6 v7 W => ∃ (i : Nat) (Af : Option Addr) (n cf : Nat), v7 = .int .i64 (i : Int) ∧ i ≤ l.length ∧ v6 = .slice Af n cf ∧ Aside0 (Kd.R k42 42 W w1.heap.size (fun _ => True) (.slice Af n cf) ((l.take i).filter okV)) ∧ Aside0 (Below w1.heap.size w1 W)) (fun v6 v7 _ => l.length - (intOf v7).toNat)
  case atStart => exact ⟨0, none, 0, 0, rfl, by omega, rfl, ⟨Kd.R_nil _ _ _ _ _⟩, ⟨Below.refl _ _⟩⟩
  case round =>
    obtain ⟨i, Af, n, cf, rfl, hi, rfl, HRF, HBW⟩ := hrel
    by_cases hlt : i < l.length
    · have t1 : decide ((i : Int) < (l.length : Int)) = true := decide_eq_true (by omega)
      have u1 : ((i : Int) < (l.length : Int)) = True := eq_true (by omega)
      have u2 : (0 ≤ (i : Int)) = True := eq_true (by omega)
      have HI := Aside0.mk hlt
      have HBL := Aside0.mk (below_step HB1.out HBW.out)
      obtain ⟨ad, rfl, x0, x1, x2, x3, x4⟩ := at_T42 (Kd.C_below HL.out HBL.out) (i : Int) (by omega) (by omega)
      simp only [Int.toNat_natCast] at x0 x1 x2 x3 x4
      clear hlt
      go_wp2_with fail
      refine (ravelinref15_Encode.calls 100 _ _ _ _ _ _ _ _ (enc_all 100 (by omega) (rd_T42 l (i : Int)))).mono ?_
      rintro e w5 ⟨rfl, hb5⟩
      have HRF5 := Aside0.mk (Kd.R_below HRF.out hb5)
      have HBW5 := Aside0.mk (below_step HBW.out hb5)
      replace x0 := kB hb5 x0
      replace x1 := kB hb5 x1
      replace x2 := kB hb5 x2
      replace x3 := kB hb5 x3
      replace x4 := kB hb5 x4
      clear hb5 HRF HBW
      by_cases hok : okV (rd_T42 l (i : Int)) = true
      · have e0 := okV_eq hok
        have c5b0 : ((encV (rd_T42 l (i : Int))).2 == 0) = true := beq_iff_eq.mpr e0
        have HN := Aside0.mk (take_yes l i HI.out hok)
        have HLN := Aside0.mk (show ((l.take i).filter okV).length ≤ i from by
          have := List.length_filter_le okV (l.take i)
          rw [List.length_take] at this
          omega)
        clear e0 hok
        generalize encV (rd_T42 l (i : Int)) = ev at *
        generalize rd_T42 l (i : Int) = xv at *
        go_wp2_with (first | ((with_reducible refine gate_dst (N := 35) rfl ?_); go_loud (refine Kd.R_lit k42 _ 42 ?hg (N := 35) ?hd (xs := [xv]) (inner := [.int .i64 xv.f0, .int .i64 xv.f1, .int .i64 xv.f2, .int .i64 xv.f3, .int .i64 xv.f4]) (ok := fun _ => True) (okp := fun _ => True) ?hr ?hp (fun _ hk => hk) trivial (Below.refl _ _) (Nat.le_refl _) (by simp) ?_); (case hd => rfl); (case hg => rfl); (case hr => go_loud (first | (go_simp; done) | (go_simp; rfl))); (case hp => go_loud (exact (Reps.snoc (Reps.none _ _) (k42_mkM _ _ _ xv) rfl))); intro v35 w6 ho6 hb6 hg6_ hn6_; clear hg6_ hn6_; go_loud (have HF6 := Aside0.mk (Kd.R_elder' HRF5.out (Kd.R_base ho6) hb6)); go_loud (have HO6 := Aside0.mk (Kd.R_lower (Kd.R_new' ho6 (Kd.R_lt HRF5.out)) (below_size HBW5.out))); go_loud (have HBW6 := Aside0.mk (below_step HBW5.out hb6)); clear hb6 ho6 HRF5 HBW5; obtain ⟨Ao6, co6, eo6⟩ := Kd.R_slice HO6.out; subst eo6) | ((with_reducible refine gate_builtin (b := .append) (xs := #[.tmp 30, .tmp 35]) rfl ?_); at_builtin; go_loud (refine Kd.R_append_rows k42 (w0 := w1) w1.heap.size rfl (.tmp 30) (.tmp 35) 36 42 (.agg #[.int .i64 0, .int .i64 0, .int .i64 0, .int .i64 0, .int .i64 0]) 40 rfl Tryz.underlying36 inf42 rfl (by decide) (by omega) _ ((l.take i).filter okV) [xv] _ _ _ (fun k_ => some k_ ≠ (.slice Ao6 ([xv] : List S42).length co6 : Value).ownBlock) (fun _ => False) rfl rfl ?aO ?aR (fun _ _ h => h) (fun _ h => h.elim) ?aF ?aB ?aS ?aL ?_); (case aR => exact (Kd.R_reads' HO6.out).2.2); (case aB => exact HBW6.out); (case aF => exact (fun k_ hk => Kd.fresh' (Kd.R_lt HO6.out) k_ hk)); (case aO => exact Kd.R_mono HF6.out (fun _ hk => hk.2)); (case aS => exact below_size HBW6.out); (case aL => have h1 := HLN.out; have h2 := HI.out; have h3 := HL40.out; simp only [List.length_singleton]; omega); intro v36 w7 ho7 hb7 hg7 hat7; rw [← HN.out] at ho7; have HO7 := Aside0.mk ho7; have HB7 := Aside0.mk hb7; clear ho7 hb7 hg7 hat7))
        obtain ⟨A7, c7, e7⟩ := Kd.R_slice HO7.out
        subst e7
        have hi3 := HI.out
        have hw : wrap64 ((i : Int) + 1) = ((i + 1 : Nat) : Int) := by
          have := HL40.out
          unfold wrap64
          omega
        rw [hw]
        exact ⟨⟨i + 1, A7, _, c7, rfl, by omega, rfl, ⟨Kd.R_mono HO7.out (fun _ _ => trivial)⟩, HB7⟩, by simp only [intOf, Int.toNat_natCast]; omega⟩
      · have hok' : okV (rd_T42 l (i : Int)) = false := by cases hq : okV (rd_T42 l (i : Int)) with
          | true => exact absurd hq hok
          | false => rfl
        have e0 : ((encV (rd_T42 l (i : Int))).2 == 0) = false := hok'
        have HN := Aside0.mk (take_no l i HI.out hok')
        clear hok hok'
        go_wp2
        have hi3 := HI.out
        have hw : wrap64 ((i : Int) + 1) = ((i + 1 : Nat) : Int) := by
          have := HL40.out
          unfold wrap64
          omega
        rw [hw]
        exact ⟨⟨i + 1, Af, n, cf, rfl, by omega, rfl, ⟨by rw [HN.out]; exact HRF5.out⟩, HBW5⟩, by simp only [intOf, Int.toNat_natCast]; omega⟩
    · obtain rfl : i = l.length := by omega
      have HRL := HRF.out
      rw [List.take_length] at HRL
      obtain ⟨Fl, hFl⟩ : ∃ Fl, Fl = l.filter okV := ⟨_, rfl⟩
      rw [← hFl] at HRL
      have hfo : ∀ x ∈ Fl, okV x = true := fun x hx => by rw [hFl] at hx; exact (List.mem_filter.1 hx).2
      have hfl : Fl.length ≤ l.length := by rw [hFl]; exact List.length_filter_le _ _
      have HR := Aside0.mk HRL
      clear HRL HRF hFl
      obtain ⟨A7, c7, e7⟩ := Kd.R_slice HR.out
      injection e7 with e7 e8 e9
      subst e7 e8 e9
      have HBL := Aside0.mk (below_step HB1.out HBW.out)
      have HA2 := Aside0.mk (blk_below HA1.out HBW.out)
      have z0 := blk_cell HA2.out 0
      have z1 := blk_cell HA2.out 1
      have z2 := blk_cell HA2.out 2
      have z3 := blk_cell HA2.out 3
      have z4 := blk_cell HA2.out 4
      have z5 := blk_cell HA2.out 5
      simp only [List.getElem?_toArray, List.getElem?_cons_zero, List.getElem?_cons_succ] at z0 z1 z2 z3 z4 z5
      clear HA2 HA1 hlt HBW
      go_wp2_with fail
      refine (Fit.fit cA dA rA sA cc dc rc sc _ _ _ _ fr fu _).mono ?_
      rintro e w8 ⟨rfl, hb8⟩
      have HB8 := Aside0.mk (below_step HBL.out hb8)
      have HR8 := Aside0.mk (Kd.R_below HR.out hb8)
      have HF := Aside0.mk (fitFu_le fu)
      generalize fitFr fr = fr2 at *
      generalize fitFu fu = fu2 at *
      clear hb8 z0 z1 z2 z3 z4 z5 HR HBL
      go_wp2_with fail
      refine (ravelinref15_Bytes.calls (Fl.length + 101) Af cf Fl _ _ _ _ (Kd.C_below (Kd.R_reads' HR8.out).2.2 (below_alloc (Below.refl _ _) _)) (Kd.R_reads' HR8.out).2.1 (bytes_eq Fl hfo (by have := HL40.out; omega))).mono ?_
      rintro e w9 ⟨v9, rfl, hr9, hb9⟩
      obtain ⟨A9, c9, e9⟩ := Kd.R_slice hr9
      subst e9
      have HB9 := Aside0.mk (below_step (below_alloc HB8.out _) hb9)
      have HE9 := Aside0.mk (blk_below (blk_new w8 (.cells #[.slice cA lc.length cc, .slice dA ld.length dc, .slice rA lr.length rc, .slice sA ls.length sc, .int .i64 fr2, .int .i64 fu2] 25)) hb9)
      have HR9 := Aside0.mk hr9
      clear hb9 hr9 HR8
      have z0 := blk_cell HE9.out 0
      have z1 := blk_cell HE9.out 1
      have z2 := blk_cell HE9.out 2
      have z3 := blk_cell HE9.out 3
      have z4 := blk_cell HE9.out 4
      have z5 := blk_cell HE9.out 5
      have f0 := blk_frozen HE9.out 0
      simp only [List.getElem?_toArray, List.getElem?_cons_zero, List.getElem?_cons_succ] at z0 z1 z2 z3 z4 z5
      go_wp2_with fail
      have HB10 := Aside0.mk (HB9.out.setCell (p := ⟨w8.heap.size, 0, none⟩) (below_size HB8.out) (.slice A9 (codeL Fl).length c9))
      have HR10 := Aside0.mk (Kd.R_set HR9.out HE9.out (by decide) 0 (.slice A9 (codeL Fl).length c9))
      have HE10 := Aside0.mk (blk_put (cs' := #[.slice A9 (codeL Fl).length c9, .slice dA ld.length dc, .slice rA lr.length rc, .slice sA ls.length sc, .int .i64 fr2, .int .i64 fu2]) HE9.out 0 (.slice A9 (codeL Fl).length c9) rfl)
      clear z0 z1 z2 z3 z4 z5 f0 HB9 HR9 HE9
      have e10 := HE.out.below HB10.out
      have HCL := Aside0.mk (show (codeL Fl).length ≤ 140737488355328 from by rw [codeL_len]; have := HL40.out; omega)
      refine (ERun.runs A9 dA rA sA c9 dc rc sc (codeL Fl) ld ls lr fr2 fu2 _ (Kd.R_reads' HR10.out).2.2 HCL.out e10.hd e10.hr e10.hs (codeL_bytes Fl) e10.bd e10.bs e10.wr HF.out).mono ?_
      rintro e w11 ⟨m, vr, vt, hm, rfl, hr, ht, hb11⟩
      obtain ⟨Ar, cr, ear⟩ := Kd.R_slice hr
      obtain ⟨At, ct, eat⟩ := Kd.R_slice ht
      subst ear eat
      have HB11 := Aside0.mk (below_step HB10.out hb11)
      have HE11 := Aside0.mk (blk_below HE10.out hb11)
      have HC11 := Aside0.mk (Kd.C_below (Kd.R_reads' HR10.out).2.2 hb11)
      have HCC := Aside0.mk (Kd.R_reads' HR10.out).2.1
      have HVR := Aside0.mk (Kd.R_reads' hr)
      have HVT := Aside0.mk (Kd.R_reads' ht)
      have HM := Aside0.mk hm
      clear hb11 hr ht hm e10 HB10 HR10 HE10
      have HO11 := Aside0.mk (blk_new w11 (.cells #[.int .i64 m.err, .int .i64 (atOf m), .int .i64 m.steps, .slice Ar (regsOf m).length cr, .slice At m.tr.length ct] 31))
      have hbo := fun (o : Obj) => below_alloc (Below.refl w11.heap.size w11) o
      have y0 := blk_cell HO11.out 0
      have y1 := blk_cell HO11.out 1
      have y2 := blk_cell HO11.out 2
      have y3 := blk_cell HO11.out 3
      have y4 := blk_cell HO11.out 4
      simp only [List.getElem?_toArray, List.getElem?_cons_zero, List.getElem?_cons_succ] at y0 y1 y2 y3 y4
      go_wp2_with fail
      clear y0 y1 y2 y3 y4 hbo
      have HBO := Aside0.mk (below_alloc HB11.out (.cells #[.int .i64 m.err, .int .i64 (atOf m), .int .i64 m.steps, .slice Ar (regsOf m).length cr, .slice At m.tr.length ct] 31))
      have hbq := below_alloc (Below.refl w11.heap.size w11) (.cells #[.int .i64 m.err, .int .i64 (atOf m), .int .i64 m.steps, .slice Ar (regsOf m).length cr, .slice At m.tr.length ct] 31)
      have HEO := Aside0.mk (blk_below HE11.out hbq)
      have HCO := Aside0.mk (Kd.C_below HC11.out hbq)
      have HRO := Aside0.mk (Kd.C_below HVR.out.2.2 hbq)
      have HTO := Aside0.mk (Kd.C_below HVT.out.2.2 hbq)
      have HN := Aside0.mk (acc (codeL Fl) ld lr ls fr2 fu2 HM.out HF.out)
      clear hbq HE11 HC11 HB11
      generalize (w11.alloc (.cells #[.int .i64 m.err, .int .i64 (atOf m), .int .i64 m.steps, .slice Ar (regsOf m).length cr, .slice At m.tr.length ct] 31)) = Wo at *
      have HO := HO11
      clear HO11
      generalize w11.heap.size = go at *
      go_loopw [12] (fun v12 W => ∃ k : Nat, v12 = .int .i64 (k : Int) ∧ k ≤ m.tr.length ∧ Aside0 (Below Wo.heap.size Wo W)) (fun v12 _ => m.tr.length - (intOf v12).toNat)
      case atStart => exact ⟨0, rfl, by omega, ⟨Below.refl _ _⟩⟩
      case round =>
        obtain ⟨k, rfl, hk, HBQ⟩ := hrel
        have HOO := Aside0.mk (blk_below HO.out HBQ.out)
        have y4 := blk_cell HOO.out 4
        simp only [List.getElem?_toArray, List.getElem?_cons_zero, List.getElem?_cons_succ] at y4
        by_cases hlt : k < m.tr.length
        · have t1 : decide ((k : Int) < (m.tr.length : Int)) = true := decide_eq_true (by omega)
          have u1 : ((k : Int) < (m.tr.length : Int)) = True := eq_true (by omega)
          have u2 : (0 ≤ (k : Int)) = True := eq_true (by omega)
          have HK := Aside0.mk hlt
          obtain ⟨ad, rfl, x0, x1, x2⟩ := at_T54 (Kd.C_below HTO.out HBQ.out) (k : Int) (by omega) (by omega)
          simp only [Int.toNat_natCast] at x0 x1 x2
          have hf : (rd_T54 m.tr (k : Int)).f2 = 4 ∨ (rd_T54 m.tr (k : Int)).f2 = 8 := by
            have e : rd_T54 m.tr (k : Int) = m.tr[k] := by
              show m.tr.getD k z54 = _
              rw [List.getD_eq_getElem?_getD, List.getElem?_eq_getElem hlt]
              rfl
            rw [e]
            exact (HN.out.2.1 _ (List.getElem_mem hlt)).1
          generalize (rd_T54 m.tr (k : Int)).f2 = sz at *
          clear hlt
          rcases hf with rfl | rfl
          · go_wp2_with fail
            have hi3 := HK.out
            have hw : wrap64 ((k : Int) + 1) = ((k + 1 : Nat) : Int) := by
              have := HN.out.2.2
              unfold wrap64
              omega
            rw [hw]
            exact ⟨⟨k + 1, rfl, by omega, HBQ⟩, by simp only [intOf, Int.toNat_natCast]; omega⟩
          · go_wp2_with fail
            have hi3 := HK.out
            have hw : wrap64 ((k : Int) + 1) = ((k + 1 : Nat) : Int) := by
              have := HN.out.2.2
              unfold wrap64
              omega
            rw [hw]
            exact ⟨⟨k + 1, rfl, by omega, HBQ⟩, by simp only [intOf, Int.toNat_natCast]; omega⟩
        · have t1 : decide ((k : Int) < (m.tr.length : Int)) = false := decide_eq_false (by omega)
          have u1 : ((k : Int) < (m.tr.length : Int)) = False := eq_false (by omega)
          have hE := blk_below HEO.out HBQ.out
          have z0 := blk_cell hE 0
          have z1 := blk_cell hE 1
          have z2 := blk_cell hE 2
          have z3 := blk_cell hE 3
          have z4 := blk_cell hE 4
          have z5 := blk_cell hE 5
          have y0 := blk_cell HOO.out 0
          have y1 := blk_cell HOO.out 1
          have y2 := blk_cell HOO.out 2
          have y3 := blk_cell HOO.out 3
          simp only [List.getElem?_toArray, List.getElem?_cons_zero, List.getElem?_cons_succ] at z0 z1 z2 z3 z4 z5 y0 y1 y2 y3
          have HBF := Aside0.mk (below_step HBO.out HBQ.out)
          clear hlt
          go_wp2_with fail
          refine (Conf.conf A9 dA rA sA Ar _ _ _ _ c9 dc rc sc _ cr fr2 fu2 _ _ _ At ct m.tr _ (Kd.C_below HTO.out HBQ.out) HN.out.2.2 HN.out.1 HN.out.2.1).mono ?_
          rintro e w13 ⟨rfl, hb13⟩
          have HBG := Aside0.mk (below_step HBF.out hb13)
          clear hb13
          go_wp2_with fail
          go_ret
          exact ⟨rfl, HBG.out⟩
end Go.Proofs.YtcgkgaibomcheaaGreat.AccessL
end

section
/- The given row of RvemuAccess, proved: for every list of instructions and every entry the law returns true, and its arguments read as they read before. Conditions: none beyond those of the row. -/
namespace Go.Proofs.YtcgkgaibomcheaaGreat.rvemuAccess
open Go.ChangeShapes Go.WideShapes Go.ChangeAt Go.RowKit Go.Deep Go.Joins
open Go.ChangeMaps (open_string shut_string)
set_option linter.unusedVariables false
set_option linter.unusedSimpArgs false
theorem own : ownKnob Tryz.prog.godebug = none := by kernel_rfl
theorem laidOut : laidOutB Tryz.prog = true := by kernel_rfl
set_option maxRecDepth 100000 in
theorem law {H : Type} {enc : TypeId × Value → H} (W : World) (v0 : Value) (d0 : DataW H) (p0 : List MemPlace) (v1 : Value) (d1 : DataW H) (p1 : List MemPlace) (h0 : DataW.Trod enc Tryz.prog W 0 (fun _ => true) true 36 v0 d0 p0) (o0 : Value.okWide Tryz.prog W .any 0 36 v0) (h1 : DataW.Trod enc Tryz.prog W 0 (fun _ => true) true 25 v1 d1 p1) (o1 : Value.okWide Tryz.prog W .any 0 25 v1) (hsz : (DataW.weightsEach Tryz.prog [36, 25] [d0, d1]).all (· ≤ reachBytes) = true) :
    Calls Tryz.prog 8 #[v0, v1] W fun e w' => e = .returned (.bool true) ∧ Below W.heap.size W w' := by
  have hw : (d1.weights Tryz.prog 25).all (· ≤ reachBytes) = true := by
    have h2 := hsz
    simp only [DataW.weightsEach, List.all_append, Bool.and_eq_true] at h2
    exact h2.2.1
  obtain ⟨lA, c0, l, rfl, hlc, h40, hl, _⟩ := OpenRv.open_list hsz (j := 0) rfl rfl o0 h0
  obtain ⟨cA, dA, rA, sA, cc, dc, rc, sc, lc, ld, ls, lr, fr, fu, rfl, he, _, _, _, _, _, _⟩ := OpenEnv.open_env o1 h1 hw
  exact AccessL.walk lA c0 l W hl hlc (by omega) cA dA rA sA cc dc rc sc lc ld ls lr fr fu he
set_option maxRecDepth 100000 in
theorem lifted (os : Os) (started : os.Started) (H : Type) (enc : TypeId × Value → H) :
    ReturnsInHanded {} Tryz.checked os 8 .any (Rows.rvemuAccessSpec.pre6 enc Tryz.prog Tryz.f8 Rows.rvemuAccessRow.domain false) (Rows.rvemuAccessSpec.post enc Tryz.prog Tryz.f8 false true false false) := by
  refine returnsInHanded_of_change_sized (C := Tryz.checked) own started (by kernel_rfl) Tryz.func8
    (ChangeSpec.witness6 (enc := enc) (C := Tryz.checked) false ⟨#[], #[.slice none 0 0, .agg #[.slice none 0 0, .slice none 0 0, .slice none 0 0, .slice none 0 0, .int .i64 0, .int .i64 0]], []⟩ 8 (by kernel_rfl) (by kernel_rfl) (by kernel_rfl) (by kernel_rfl)) ?_
  intro W base args ds gs before hval0 hW hcnd hsz0 _
  have hsz : (DataW.weightsEach Tryz.prog (Tryz.f8.params.toList ++ Rows.rvemuAccessSpec.plain.varTypes Tryz.prog) (ds ++ gs)).all (· ≤ reachBytes) = true := hsz0
  have hval : ∀ (j : Nat) t v, Tryz.f8.params[j]? = some t → args[j]? = some v → Value.okWide Tryz.prog W .any base t v := hval0
  have hW' := hW
  obtain ⟨p, q, hA0, hV, rfl, hfz, hnd⟩ := hW
  have hA : DataW.TrodAll enc Tryz.prog W 0 (fun _ => true) true Tryz.f8.params.toList args.toList ds p := hA0
  rw [Tryz.params8] at hA hval hsz
  obtain ⟨v0, vs0, d0, ds0, p0, q0, hargs, rfl, rfl, h0, r0⟩ := trodAll_cons hA
  obtain ⟨v1, vs1, d1, ds1, p1, q1, rfl, rfl, rfl, h1, r1⟩ := trodAll_cons r0
  obtain ⟨rfl, rfl, rfl⟩ := trodAll_nil r1
  obtain rfl : args = #[v0, v1] := by cases args; simp_all
  obtain ⟨rfl, rfl⟩ := trodVars_none hV
  have k0 := h0
  have lt0 : ∀ x ∈ p0, x.block < W.heap.size := by obtain ⟨m, hm⟩ := k0; exact DataW.trod_lt m _ _ _ hm
  have k1 := h1
  have lt1 : ∀ x ∈ p1, x.block < W.heap.size := by obtain ⟨m, hm⟩ := k1; exact DataW.trod_lt m _ _ _ hm
  refine (law (enc := enc) W v0 d0 p0 v1 d1 p1 h0 (hval 0 36 v0 rfl rfl) h1 (hval 1 25 v1 rfl rfl) hsz).mono fun e W' ⟨he, bel⟩ => ?_
  subst he
  exact ⟨_, rfl, _, _, _, [], _, [], hW', trodAll_mk1 (shut_bool Tryz.underlying4 _), (trodAll_cons_mk (Below.trod laidOut (by kernel_rfl) (of_decide_eq_true (by kernel_rfl)) k0 bel lt0) (trodAll_cons_mk (Below.trod laidOut (by kernel_rfl) (of_decide_eq_true (by kernel_rfl)) k1 bel lt1) trodAll_mk0)), rfl, bel.frame _, fun h => by cases h⟩
theorem over : Rows.rvemuAccessRow.holds Tryz.pinned (OpenSpec.ofChange Rows.rvemuAccessSpec) :=
  OpenClaim.holds_of_wide 8 Tryz.f8 rfl rfl rfl rfl rfl rfl rfl ⟨rfl, rfl, rfl, rfl, rfl⟩ rfl rfl rfl rfl rfl (by kernel_rfl) Tryz.func8 (by kernel_rfl)
    (of_decide_eq_true (by kernel_rfl)) (by unfold Func.isWrapper; first | (rw [if_pos (by decide +kernel)]; kernel_rfl) | (rw [if_neg (by decide +kernel)]; exact ⟨rfl, rfl⟩))
    (fun os started H enc _ => lifted os started H enc)
end Go.Proofs.YtcgkgaibomcheaaGreat.rvemuAccess
namespace Go.Proofs.YtcgkgaibomcheaaGreat
/-- The row, under a short name, for the claim. -/
theorem rvemuAccess_holds : Rows.RvemuAccessSaid := rvemuAccess.over
end Go.Proofs.YtcgkgaibomcheaaGreat
end

section
namespace Go.Proofs.YtcgkgaibomcheaaGreat.PRvemuRuns
open Go.RowKit Go.Proofs.YtcgkgaibomcheaaGreatW.PrintWords Go.Proofs.YtcgkgaibomcheaaGreatW.PrintLast Go.Proofs.YtcgkgaibomcheaaGreatW.PrintMore
attribute [local go_sem] max2_int min2_int max_two min_two max_three min_three max_four min_four   -- for this text's walks alone
set_option linter.unusedVariables false
set_option linter.unusedSimpArgs false

theorem eqA54 (d : Nat) (w : World) (x0 y0 : Bool) (x1 y1 : Int) (x2 y2 : Int) :
    (Op.equalIn (d + 2) 54 (.agg #[.bool x0, .int .u64 x1, .int .i64 x2]) (.agg #[.bool y0, .int .u64 y1, .int .i64 y2])).run Tryz.prog w = .ok (x0 == y0 && (x1 == y1 && (x2 == y2))) w := by
  refine eqA_of Tryz.underlying54 (by kernel_rfl) ?_
  refine eqf_cons (by rfl) (by go_simp; rfl) (by go_simp; rfl) (by go_simp) ?_
  refine eqf_cons (by rfl) (by go_simp; rfl) (by go_simp; rfl) (by go_simp) ?_
  exact eqf_last (by rfl) (by go_simp; rfl) (by go_simp; rfl) (by go_simp)
end Go.Proofs.YtcgkgaibomcheaaGreat.PRvemuRuns
end
