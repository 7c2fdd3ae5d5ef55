/- The walk of the law WordBytes: out of what its callees answer, the law returns true; nothing that was there changes. Conditions: those of the theorem. -/
import Derived.Test.YtppbbhpaoflhnaaOwnRow8
import Derived.StillTailTactics
import Derived.Deep.QuietTactic
import Derived.BigQuiet
import Derived.Deep.RegionHeld3

namespace Go.Proofs.Ytppbbhpaoflhnaa.BytesWalk
open Go.RowKit Go.Proofs.Ytppbbhpaoflhnaa.PWordBytes Go.Proofs.Ytppbbhpaoflhnaa.Bits Go.Proofs.Ytppbbhpaoflhnaa.OwnRow8 Go.Proofs.YtppbbhpaoflhnaaW.PrintWords Go.Proofs.YtppbbhpaoflhnaaW.PrintLast Go.Proofs.YtppbbhpaoflhnaaW.PrintMore
set_option linter.unusedVariables false
set_option linter.unusedSimpArgs false
theorem own_start {g : Nat} {l : List Int} {cs : Array Value} {W : World} (hh : W.heap[g]? = some (.cells cs 5 (0, 0))) (hs : (l ++ [77]).length ≤ cs.size) (hc : ∀ j, j < (l ++ [77]).length → cs[j]? = some (.int .u8 ((l ++ [77]).getD j 0))) : Own g l W := by
  rw [List.length_append] at hs hc
  refine ⟨cs, hh, by simp at hs; omega, fun j hj => ?_, ?_⟩
  · rw [hc j (by simp; omega)]
    simp [List.getD_eq_getElem?_getD, List.getElem?_append_left hj]
  · rw [hc l.length (by simp)]
    simp [List.getD_eq_getElem?_getD]
/-- The state of the loop: own's bytes x in block g, now's bytes y. -/
structure St (w w18 : World) (g : Nat) (x y : List Int) (v7 : Value) (W : World) : Prop where
  own : Own g x W
  row : Kd.R (Kd.int .u8) 5 W w18.heap.size (fun k => k ≠ g) v7 y
  below : Below w.heap.size w W
  lt : g < W.heap.size
theorem St.drewN {w w18 : World} {g : Nat} {x y : List Int} {v7 : Value} {W : World} (h : St w w18 g x y v7 W) (m : Nat) : St w w18 g x y v7 (W.drewN m) :=
  ⟨h.own.of rfl, Kd.R_drewN h.row m, pw_below_drewN h.below m, h.lt⟩
theorem St.only {w w18 : World} {g : Nat} {x x' y : List Int} {v7 : Value} {W W' : World} (h : St w w18 g x y v7 W) (ho : Only g W W') (hx : Own g x' W') (hg : w.heap.size ≤ g) : St w w18 g x' y v7 W' :=
  ⟨hx, Kd.R_step h.row (fun k hk _ => ho.block k hk), ⟨ho.os.trans h.below.os, ho.tape.trans h.below.tape, ho.output.trans h.below.output, by rw [ho.size]; exact h.below.size, fun k hk => (ho.block k (by omega)).trans (h.below.block k hk)⟩, by rw [ho.size]; exact h.lt⟩
theorem St.next {w w18 : World} {g : Nat} {x y y' : List Int} {v7 v7' : Value} {W W' : World} (h : St w w18 g x y v7 W) (hb : Below W.heap.size W W') (hr : Kd.R (Kd.int .u8) 5 W' W.heap.size (fun _ => True) v7' y') (hs : w18.heap.size ≤ W.heap.size) : St w w18 g x y' v7' W' :=
  ⟨h.own.of (hb.block g h.lt), Kd.R_mono (Kd.R_bound (Kd.R_lower (Kd.R_mono (Kd.R_bound hr) (fun k hk => hk.2.1)) hs)) (fun k hk => by have := hk.1; have := h.lt; omega), below_step h.below hb, by have := hb.size; have := h.lt; omega⟩
theorem St.later {w w18 : World} {g : Nat} {x y : List Int} {v7 : Value} {W W' : World} (h : St w w18 g x y v7 W) (hb : Below W.heap.size W W') : St w w18 g x y v7 W' :=
  ⟨h.own.of (hb.block g h.lt), Kd.R_below h.row hb, below_step h.below hb, by have := hb.size; have := h.lt; omega⟩
set_option maxRecDepth 100000 in
set_option maxHeartbeats 1600000 in
theorem walk (k : Nat) (A : Option Addr) (c : Nat) (l : List Int) (A1 : Option Addr) (c1 : Nat) (ps : List S49) (w : World) (hr : Kd.C (Kd.int .u8) w A l.length l) (hc : l.length ≤ c) (hl : l.length < 140737488355327) (hby : isBytes l)
   (hr1 : Kd.C k49 w A1 ps.length ps) (hc1 : ps.length ≤ c1) (hl1 : ps.length < 1000000000000000) (hv : ∀ x ∈ ps, (Lit.int .u64 x.f2).wf = true)
    (hh : ravelinlaw01_head.f k = some true) :
    Calls Try.prog 8 #[.slice A l.length c, .slice A1 ps.length c1] w fun e w' => e = .returned (.bool true) ∧ Below w.heap.size w w' := by
  have HR0 := Aside0.mk hr
  have HC := Aside0.mk hc
  have HH := Aside0.mk hh
  have HL := Aside0.mk hl
  have HP := Aside0.mk hr1
  have HCP := Aside0.mk hc1
  have HL1 := Aside0.mk hl1
  have HV := Aside0.mk hv
  have HBY := Aside0.mk hby
  clear hr hc hh hl hr1 hc1 hl1 hv hby
  go_enter Try.func8, Try.ntmps8
  go_wp2_with fail
  refine (ravelinlaw01_head.calls k true _ HH.out).mono ?_
  rintro e w1 ⟨rfl, hb⟩
  have HB := Aside0.mk hb
  clear hb HH
  go_wp2_with (first | ((with_reducible refine gate_dst (N := 14) rfl ?_); (try (refine gate_guard (by rfl) ?_; dsimp only)); refine Kd.R_lit (Kd.int .u8) _ 5 ?hg (N := 14) ?hd (xs := ([] : List Int)) (inner := []) (ok := fun _ => True) (okp := fun _ => True) ?hr ?hp (fun _ hk => hk) trivial (Below.refl _ _) (Nat.le_refl _) (by simp) ?_; (case hd => rfl); (case hg => rfl); (case hr => first | (go_simp; done) | (go_simp; rfl)); (case hp => exact (Reps.none _ _)); intro v14 w14 ho14 hb14 hgx_ hnx_; clear hgx_ hnx_) | ((with_reducible refine gate_builtin (b := .append) (xs := #[.tmp 14, .tmp 15]) rfl ?_); (try (refine gate_guard (by rfl) ?_; dsimp only)); at_builtin; refine Kd.R_append_rows (Kd.int .u8) (w0 := w1) w1.heap.size rfl (.tmp 14) (.tmp 15) 43 5 (.int .u8 0) 1 rfl Try.underlying43 info5 rfl (by decide) (by omega) v14 [] l _ _ _ (fun _ => True) (fun _ => False) rfl rfl ?aO ?aR (fun _ _ h => h) (fun _ h => h.elim) ?aF ?aB ?aS ?aL ?_; (case aO => exact ho14); (case aR => exact Kd.C_below HR0.out (below_step HB.out hb14)); (case aF => exact fun _ _ => trivial); (case aB => exact hb14); (case aS => exact hb14.size); (case aL => have := HL.out; simp only [List.length_cons, List.length_nil]; omega); intro v16 w16 ho16 hb16 hg16 hatx_; clear hatx_) | ((with_reducible refine gate_dst (N := 17) rfl ?_); (try (refine gate_guard (by rfl) ?_; dsimp only)); refine Kd.R_lit (Kd.int .u8) _ 5 ?hg (N := 17) ?hd (xs := ([77] : List Int)) (inner := [.int .u8 77]) (ok := fun _ => True) (okp := fun _ => True) ?hr ?hp (fun _ hk => hk) trivial (Below.refl _ _) (Nat.le_refl _) (by simp) ?_; (case hd => rfl); (case hg => rfl); (case hr => first | (go_simp; done) | (go_simp; rfl)); (case hp => exact (Reps.one (show Kd.M (Kd.int .u8) _ _ _ 77 [.int .u8 77] from rfl) (Reps.none _ _))); intro v17 w17 ho17 hb17 hgx_ hnx_; clear hgx_ hnx_) | ((with_reducible refine gate_builtin (b := .append) (xs := #[.tmp 16, .tmp 17]) rfl ?_); (try (refine gate_guard (by rfl) ?_; dsimp only)); at_builtin; obtain ⟨A17, c17, rfl, hc17, hC17⟩ := Kd.R_reads ho17; refine Kd.R_append_rows (Kd.int .u8) (w0 := w1) w1.heap.size rfl (.tmp 16) (.tmp 17) 43 5 (.int .u8 0) 1 rfl Try.underlying43 info5 rfl (by decide) (by omega) v16 l [77] _ _ _ (fun _ => True) (fun _ => False) rfl rfl ?aO ?aR (fun _ _ h => h) (fun _ h => h.elim) ?aF ?aB ?aS ?aL ?_; (case aO => exact Kd.R_below ho16 hb17); (case aR => exact hC17); (case aF => exact fun _ _ => trivial); (case aB => exact below_then hb16 hb16.size hb17); (case aS => exact Nat.le_trans hb16.size hb17.size); (case aL => have := HL.out; simp only [List.length_cons, List.length_nil]; omega); intro v18 w18 ho18 hb18 hg18 hatx_; clear hatx_))
  obtain ⟨g, c18, cs, rfl, hg0, hcap, hcm, hcs, hgb, hgc⟩ := own_open ho18 (by simp)
  have HO := Aside0.mk (own_start hgb (by omega) hgc)
  have HG := Aside0.mk hg0
  have HC18 := Aside0.mk hcap
  have HGL := Aside0.mk (blk_lt hgb)
  have HB18 := Aside0.mk (below_step HB.out hb18)
  obtain ⟨i5, hi5, hz5⟩ := Option.map_eq_some_iff.1 info5
  simp only [Prod.mk.injEq] at hz5
  have S1 : ∀ W : World, (Instr.slice 43 (.slice (some ⟨g, 0, none⟩) (l.length + 1) c18) none (some (.int .i64 l.length)) none).run Try.prog W = .ok (.slice (some ⟨g, 0, none⟩) l.length c18) W := fun W => by
    have := (print_take_of (P := Try.prog) (Value.int .u8) 0 43 5 .i64 Try.underlying43 hi5 hz5.2.1 (some ⟨g, 0, none⟩) c18 (l ++ [77]) l.length (by omega) (by simp only [List.length_append, List.length_cons, List.length_nil]; omega) hcap).1 W
    simpa using this
  have S1b : ∀ W : World, (Instr.slice 43 (.slice (some ⟨g, 0, none⟩) (l ++ [77]).length c18) none (some (.int .i64 l.length)) none).run Try.prog W = .ok (.slice (some ⟨g, 0, none⟩) l.length c18) W := fun W => by
    rw [List.length_append]; exact S1 W
  go_simp
  clear hgc hgb hcs hcm hcap hg0 hb18 ho18 hg18 hb17 ho17 hb16 ho16 hb14 ho14 hC17 hc17 hi5 hz5 hg16
  go_wp2_with (first | ((with_reducible refine gate_dst (N := 22) rfl ?_); (try (refine gate_guard (by rfl) ?_; dsimp only)); refine Kd.R_lit (Kd.int .u8) _ 5 ?hg (N := 22) ?hd (xs := ([] : List Int)) (inner := []) (ok := fun _ => True) (okp := fun _ => True) ?hr ?hp (fun _ hk => hk) trivial (Below.refl _ _) (Nat.le_refl _) (by simp) ?_; (case hd => rfl); (case hg => rfl); (case hr => first | (go_simp; done) | (go_simp; rfl)); (case hp => exact (Reps.none _ _)); intro v22 w22 ho22 hb22 hgx_ hnx_; clear hgx_ hnx_) | ((with_reducible refine gate_builtin (b := .append) (xs := #[.tmp 22, .tmp 23]) rfl ?_); (try (refine gate_guard (by rfl) ?_; dsimp only)); at_builtin; refine Kd.R_append_rows (Kd.int .u8) (w0 := w18) w18.heap.size rfl (.tmp 22) (.tmp 23) 43 5 (.int .u8 0) 1 rfl Try.underlying43 info5 rfl (by decide) (by omega) v22 [] l _ _ _ (fun _ => True) (fun _ => False) rfl rfl ?aO ?aR (fun _ _ h => h) (fun _ h => h.elim) ?aF ?aB ?aS ?aL ?_; (case aO => exact ho22); (case aR => exact Kd.C_below HR0.out (below_step HB18.out hb22)); (case aF => exact fun _ _ => trivial); (case aB => exact hb22); (case aS => exact hb22.size); (case aL => have := HL.out; simp only [List.length_cons, List.length_nil]; omega); intro v24 w24 ho24 hb24 hg24 hatx_; clear hatx_))
  have HGW := Aside0.mk (Nat.le_trans HB.out.size HG.out)
  have ST := Aside0.mk (show St w w18 g l l v24 w24 from ⟨HO.out.of (hb24.block g HGL.out), Kd.R_mono (Kd.R_bound ho24) (fun k hk => by have := hk.2.1; have := HGL.out; omega), below_step HB18.out hb24, by have := hb24.size; have := HGL.out; omega⟩)
  have HS18 := Aside0.mk hb24.size
  clear hb24 ho24 ho22 hb22 hg24 HO HGL HB18
  go_loopw [7, 8] (fun v7 v8 w' => ∃ (x : List Int) (i : Nat), v8 = .int .i64 i ∧ i ≤ ps.length ∧ Aside0 (isBytes x) ∧ Aside0 (x.length = l.length) ∧ Aside0 (St w w18 g x x v7 w') ∧ Aside0 (w18.heap.size ≤ w'.heap.size)) (fun _ v8 _ => ps.length - (intOf v8).toNat)
  case atStart => exact ⟨l, 0, rfl, by omega, HBY, ⟨rfl⟩, ST, HS18⟩
  case round =>
    clear ST HS18
    obtain ⟨x, i, rfl, hi, BX, LX, ST, HS⟩ := hrel
    by_cases hlt : i < ps.length
    · obtain ⟨A3, c3, rfl, hc3, hC3⟩ := Kd.R_reads ST.out.row
      have HC3 := Aside0.mk hC3
      have Hc3 := Aside0.mk hc3
      clear hC3 hc3
      obtain ⟨ad, e120, hx0, hx1, hx2⟩ := at_T49 HP.out (i : Int) (by omega) (by omega)
      cases e120
      rw [Int.toNat_natCast] at hx0 hx1 hx2
      have D0 := Aside0.mk hx0
      have D1 := Aside0.mk hx1
      have D2 := Aside0.mk hx2
      clear hx0 hx1 hx2
      have q0 : (0 : Int) ≤ (i : Int) := by omega
      have q1 : (i : Int) < (ps.length : Int) := by omega
      obtain ⟨r1, r2, hL1, hL2⟩ := Pure.WordBytes.loads 100 (by omega) x (by have := LX.out; have := HL.out; omega) BX.out ((rd_T49 ps i).f0) ((rd_T49 ps i).f1)
      have L1 := Aside0.mk hL1
      have L2 := Aside0.mk hL2
      clear hL1 hL2
      have hx0 := (ST.out.below.cell (World.block_lt_of_cell? w _ D0.out)).trans D0.out
      have hx1 := (ST.out.below.cell (World.block_lt_of_cell? w _ D1.out)).trans D1.out
      have hx2 := (ST.out.below.cell (World.block_lt_of_cell? w _ D2.out)).trans D2.out
      go_wp2_with fail
      have C1 := Aside0.mk (show ∀ m, Calls Try.prog 23 #[.slice (some ⟨g, 0, none⟩) l.length c18, .int .i64 (rd_T49 ps i).f0, .int .i64 (rd_T49 ps i).f1] (wr.drewN m) fun e w'' => e = .returned (.tuple #[.int .u64 r1, .int .i64 r2]) ∧ ∃ n, w'' = wr.drewN n from fun m => Calls.quiet_of (by rw [← LX.out]; exact (word_Load.calls 100 (some ⟨g, 0, none⟩) c18 x _ _ r1 r2 (wr.drewN m) ((ST.out.drewN m).own.reads (by have := LX.out; have := HL.out; omega)) (by have := LX.out; have := HC18.out; rw [List.length_append] at this; omega) L1.out).mono fun _ _ h => ⟨h.1, h.2.out⟩))
      go_quiet ((go_at_call 23; exact C1.out _))
      clear hx0 hx1 hx2 C1
      have ST2 := Aside0.mk (ST.out.drewN nq)
      have HS2 := Aside0.mk (show w18.heap.size ≤ (wr.drewN nq).heap.size from HS.out)
      have HC4 := Aside0.mk (Kd.C_drewN HC3.out nq)
      clear ST HS HC3
      generalize wr.drewN nq = w2 at ST2 HS2 HC4 ⊢
      have hx0 := (ST2.out.below.cell (World.block_lt_of_cell? w _ D0.out)).trans D0.out
      have hx1 := (ST2.out.below.cell (World.block_lt_of_cell? w _ D1.out)).trans D1.out
      have hx2 := (ST2.out.below.cell (World.block_lt_of_cell? w _ D2.out)).trans D2.out
      have C2 := Aside0.mk (show ∀ m, Calls Try.prog 24 #[.slice A3 x.length c3, .int .i64 (rd_T49 ps i).f0, .int .i64 (rd_T49 ps i).f1] (w2.drewN m) fun e w'' => e = .returned (.tuple #[.int .u64 r1, .int .i64 r2]) ∧ ∃ n, w'' = w2.drewN n from fun m => Calls.quiet_of ((ravelinref01_Load.calls 100 A3 c3 x _ _ r1 r2 (w2.drewN m) (Kd.C_drewN HC4.out m) Hc3.out L2.out).mono fun _ _ h => ⟨h.1, h.2.out⟩))
      go_wp2_with fail
      go_quiet ((go_at_call 24; exact C2.out _))
      clear hx0 hx1 hx2 C2
      have ST3 := Aside0.mk (ST2.out.drewN nq)
      have HS3 := Aside0.mk (show w18.heap.size ≤ (w2.drewN nq).heap.size from HS2.out)
      have HC5 := Aside0.mk (Kd.C_drewN HC4.out nq)
      clear ST2 HS2 HC4
      generalize w2.drewN nq = w3 at ST3 HS3 HC5 ⊢
      have hx0 := (ST3.out.below.cell (World.block_lt_of_cell? w _ D0.out)).trans D0.out
      have hx1 := (ST3.out.below.cell (World.block_lt_of_cell? w _ D1.out)).trans D1.out
      have hx2 := (ST3.out.below.cell (World.block_lt_of_cell? w _ D2.out)).trans D2.out
      go_wp2_with fail
      go_still_tail 16, (by kernel_rfl)
      change wpList _ _ _ _ _ w3.drew
      have ST4 := Aside0.mk (show St w w18 g x x (.slice A3 x.length c3) w3.drew from ST3.out.drewN 1)
      have HS4 := Aside0.mk (show w18.heap.size ≤ w3.drew.heap.size from HS3.out)
      clear ST3 HS3 HC5 hx0 hx1 hx2
      generalize w3.drew = w4 at ST4 HS4 ⊢
      have hmem : rd_T49 ps (i : Int) ∈ ps := by
        unfold rd_T49
        rw [Int.toNat_natCast, List.getD_eq_getElem?_getD, List.getElem?_eq_getElem hlt]
        exact List.getElem_mem hlt
      obtain ⟨v, hv⟩ := U_of (HV.out _ hmem)
      have C3 := Aside0.mk (show Calls Try.prog 25 #[.slice (some ⟨g, 0, none⟩) l.length c18, .int .i64 (rd_T49 ps i).f0, .int .i64 (rd_T49 ps i).f1, .int .u64 (rd_T49 ps i).f2] w4 fun e w' => e = .returned (.int .i64 (Pure.WordBytes.stE x (rd_T49 ps i).f0 (rd_T49 ps i).f1)) ∧ Own g (Pure.WordBytes.stL x (rd_T49 ps i).f0 (rd_T49 ps i).f1 v) w' ∧ Only g w4 w' from by
        rw [hv, ← LX.out]; exact OwnRow8.store g c18 x _ _ v w4 ST4.out.own (by have := LX.out; have := HL.out; omega) (by have := LX.out; have := HC18.out; rw [List.length_append] at this; omega))
      have E1 := Aside0.mk (show ravelinref01_Store.f 100 x (rd_T49 ps i).f0 (rd_T49 ps i).f1 (rd_T49 ps i).f2 = some (Pure.WordBytes.stL x (rd_T49 ps i).f0 (rd_T49 ps i).f1 v, Pure.WordBytes.stE x (rd_T49 ps i).f0 (rd_T49 ps i).f1) from by
        rw [hv]; exact Pure.WordBytes.ref_Store_eq 100 (by omega) x (by have := LX.out; have := HL.out; omega) (by have := LX.out; have := HL.out; omega) _ _ v)
      have BX5 := Aside0.mk (Pure.WordBytes.stL_bytes BX.out (rd_T49 ps i).f0 (rd_T49 ps i).f1 v)
      have LX5 := Aside0.mk ((Pure.WordBytes.stL_length x (rd_T49 ps i).f0 (rd_T49 ps i).f1 v).trans LX.out)
      obtain ⟨x5, hx5⟩ : ∃ x5, Pure.WordBytes.stL x (rd_T49 ps i).f0 (rd_T49 ps i).f1 v = x5 := ⟨_, rfl⟩
      obtain ⟨e5, he5⟩ : ∃ e5, Pure.WordBytes.stE x (rd_T49 ps i).f0 (rd_T49 ps i).f1 = e5 := ⟨_, rfl⟩
      rw [hx5, he5] at C3 E1
      rw [hx5] at BX5 LX5
      clear hx5 he5 hv hmem
      go_wp2_with fail
      refine C3.out.mono ?_
      rintro e w5 ⟨rfl, ho5, hn5⟩
      have ST5 := Aside0.mk (ST4.out.only hn5 ho5 HGW.out)
      have HS5 := Aside0.mk (show w18.heap.size ≤ w5.heap.size from by rw [hn5.size]; exact HS4.out)
      clear ST4 HS4 C3 ho5 hn5
      have hx0 := (ST5.out.below.cell (World.block_lt_of_cell? w _ D0.out)).trans D0.out
      have hx1 := (ST5.out.below.cell (World.block_lt_of_cell? w _ D1.out)).trans D1.out
      have hx2 := (ST5.out.below.cell (World.block_lt_of_cell? w _ D2.out)).trans D2.out
      go_wp2_with fail
      have C4 := Aside0.mk (show ∀ W : World, St w w18 g x5 x (.slice A3 x.length c3) W ∧ w18.heap.size ≤ W.heap.size → Calls Try.prog 26 #[.slice A3 x.length c3, .int .i64 (rd_T49 ps i).f0, .int .i64 (rd_T49 ps i).f1, .int .u64 (rd_T49 ps i).f2] W fun e w' => ∃ (A8 : Option Addr) (c8 : Nat), e = .returned (.tuple #[.slice A8 x5.length c8, .int .i64 e5]) ∧ St w w18 g x5 x5 (.slice A8 x5.length c8) w' ∧ St w w18 g x5 x (.slice A3 x.length c3) w' ∧ w18.heap.size ≤ w'.heap.size ∧ Below W.heap.size W w' from fun W hW => (ravelinref01_Store.calls 100 A3 c3 x (rd_T49 ps i).f0 (rd_T49 ps i).f1 (rd_T49 ps i).f2 x5 e5 W (Kd.R_reads' hW.1.row).2.2 Hc3.out E1.out).mono fun e w' ⟨v7, he, hr7, hb7⟩ => by
        have st := hW.1.next hb7 hr7 hW.2
        obtain ⟨A8, c8, hv8, _, _⟩ := Kd.R_reads hr7
        subst hv8
        exact ⟨A8, c8, he, st, hW.1.later hb7, Nat.le_trans hW.2 hb7.size, hb7⟩)
      have S5 : St w w18 g x5 x (.slice A3 x.length c3) w5 ∧ w18.heap.size ≤ w5.heap.size := ⟨ST5.out, HS5.out⟩
      clear ST5 HS5 E1
      go_region_held3 (fun w' => w'.cell? (ad.add (i * 3)) = some (.int .i64 (rd_T49 ps i).f0) ∧ w'.cell? ⟨(ad.add (i * 3)).block, (ad.add (i * 3)).off + 1, none⟩ = some (.int .i64 (rd_T49 ps i).f1) ∧ w'.cell? ⟨(ad.add (i * 3)).block, (ad.add (i * 3)).off + 2, none⟩ = some (.int .u64 (rd_T49 ps i).f2) ∧ (St w w18 g x5 x (.slice A3 x.length c3) w' ∧ w18.heap.size ≤ w'.heap.size)) (first | exact ⟨hx0, hx1, hx2, S5.1.drewN 1, S5.2⟩ | exact ⟨y0, y1, y2, y3⟩) (first | (go_at_call 26; refine (C4.out _ (by exact ⟨S5.1.drewN 1, S5.2⟩)).mono ?_; rintro e w7 ⟨A8, c8, rfl, st7, st7b, hs7, hb7⟩; have y0 := (hb7.cell (World.block_lt_of_cell? _ _ hx0)).trans hx0; have y1 := (hb7.cell (World.block_lt_of_cell? _ _ hx1)).trans hx1; have y2 := (hb7.cell (World.block_lt_of_cell? _ _ hx2)).trans hx2; have y3 := And.intro st7b hs7))
      have BX7 := BX5
      have k1 := Kd.C_string (P := Try.prog) (src := 43) (dst := 9) (c := c8) Try.underlying43 Try.underlying5 Try.underlying9 (Kd.R_reads' st7.row).2.2
      have k2 := Kd.C_string (P := Try.prog) (src := 43) (dst := 9) (c := c18) Try.underlying43 Try.underlying5 Try.underlying9 (st7.own.reads (by have := LX5.out; have := HL.out; omega))
      rw [LX5.out] at k2
      have ST7 := Aside0.mk st7
      have HS7 := Aside0.mk hs7
      clear st7 hs7 hb7 hx0 hx1 hx2 S5 C4 st7b y0 y1 y2 y3
      have hL1 := HL1.out
      go_wp2
      exact ⟨⟨x5, i + 1, by go_num, by omega, BX7, LX5, ST7, HS7⟩, by simp [intOf]; omega⟩
    · obtain rfl : i = ps.length := by omega
      have hcap2 : (l.length : Int) + 1 ≤ (c18 : Int) := by have := HC18.out; rw [List.length_append] at this; simp only [List.length_cons, List.length_nil] at this; omega
      have hlen2 : (l.length : Int) < 140737488355327 := by have := HL.out; omega
      obtain ⟨cs, b1, b2, b3, b4⟩ := ST.out.own
      rw [LX.out] at b4
      have hc77 := (blk_cell b1 l.length).trans b4
      clear b1 b2 b3 b4
      go_wp2
      go_ret
      exact ⟨rfl, ST.out.below⟩
end Go.Proofs.Ytppbbhpaoflhnaa.BytesWalk
