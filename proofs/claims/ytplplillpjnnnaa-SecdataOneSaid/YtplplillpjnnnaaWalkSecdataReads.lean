/- The walk of the law SecdataReads: bytes of any length are read as the document says; what is read, laid out, is the same. Conditions: those of the theorem. -/
import Derived.Test.YtplplillpjnnnaaWalkSecdataBytes
import Derived.Deep.QuietTactic
import Derived.BigQuiet
namespace Go.Proofs.Ytplplillpjnnnaa.ReadsWalk
open Go.RowKit Go.Proofs.Ytplplillpjnnnaa.Bits Go.Proofs.Ytplplillpjnnnaa.Dat Go.Proofs.Ytplplillpjnnnaa.Dat2 Go.Proofs.Ytplplillpjnnnaa.Common Go.Proofs.Ytplplillpjnnnaa.ApartWalk Go.Proofs.YtplplillpjnnnaaW.PrintWords Go.Proofs.YtplplillpjnnnaaW.PrintLast Go.Proofs.YtplplillpjnnnaaW.PrintMore
set_option linter.unusedVariables false
set_option linter.unusedSimpArgs false

def zero : Dt := ⟨0#64, 0#64, 0#64, 0#64, 0#64, 0#64, 0#64, 0#64, 0#64⟩
def rD (l : List Int) : Dt := if l.length = 64 then dOf l else zero
def rE (l : List Int) : Int := if l.length = 64 then 0 else 21
theorem rD_small {l : List Int} (hb : isBytes l) : Dt.small (rD l) := by
  unfold rD
  split
  · exact dOf_small hb
  · exact ⟨by decide, by decide⟩
/-- Read, of any bytes. -/
theorem read (A : Option Addr) (c : Nat) (l : List Int) (hb : isBytes l) (hl : l.length < 1000000000000000) (w : World) (hr : Kd.C (Kd.int .u8) w A l.length l) (hc : l.length ≤ c) :
    Calls Try.prog 17 #[.slice A l.length c] w fun e w' => e = .returned (.tuple #[.agg #[.int .u32 (U (rD l).nr), .int .u32 (U (rD l).arch), .int .u64 (U (rD l).ip), .int .u64 (U (rD l).a0), .int .u64 (U (rD l).a1), .int .u64 (U (rD l).a2), .int .u64 (U (rD l).a3), .int .u64 (U (rD l).a4), .int .u64 (U (rD l).a5)], .int .i64 (rE l)]) ∧ Below w.heap.size w w' := by
  unfold rD rE
  by_cases h : l.length = 64
  · rw [if_pos h, if_pos h]; exact Read.yes A c l hb h w hr hc
  · rw [if_neg h, if_neg h]; exact Read.no A c l h hl w
theorem refRead (A : Option Addr) (c : Nat) (l : List Int) (hb : isBytes l) (hl : l.length < 1000000000000000) (w : World) (hr : Kd.C (Kd.int .u8) w A l.length l) (hc : l.length ≤ c) :
    Calls Try.prog 18 #[.slice A l.length c] w fun e w' => e = .returned (.tuple #[.agg #[.int .u32 (U (rD l).nr), .int .u32 (U (rD l).arch), .int .u64 (U (rD l).ip), .int .u64 (U (rD l).a0), .int .u64 (U (rD l).a1), .int .u64 (U (rD l).a2), .int .u64 (U (rD l).a3), .int .u64 (U (rD l).a4), .int .u64 (U (rD l).a5)], .int .i64 (rE l)]) ∧ Below w.heap.size w w' := by
  unfold rD rE
  by_cases h : l.length = 64
  · rw [if_pos h, if_pos h]; exact RefRead.yes A c l hb h w hr hc
  · rw [if_neg h, if_neg h]; exact RefRead.no A c l h hl w
theorem read_ok {l : List Int} (hb : isBytes l) (h : rE l = 0) : dB (rD l) = l ∧ l.length = 64 := by
  unfold rE at h
  by_cases hl : l.length = 64
  · unfold rD
    rw [if_pos hl]
    exact ⟨dB_dOf hb hl, hl⟩
  · rw [if_neg hl] at h
    cases h
set_option maxRecDepth 100000 in
set_option maxHeartbeats 3200000 in
theorem walk (A : Option Addr) (c : Nat) (l : List Int) (w : World) (hr : Kd.C (Kd.int .u8) w A l.length l) (hc : l.length ≤ c) (hl : l.length < 140737488355327) (hby : isBytes l) :
    Calls Try.prog 7 #[.slice A l.length c] w fun e w' => e = .returned (.bool true) ∧ Below w.heap.size w w' := by
  have HR0 := Aside0.mk hr
  have HC := Aside0.mk hc
  have HL := Aside0.mk hl
  have HSM := Aside0.mk (rD_small hby)
  have HOK := Aside0.mk (fun h => read_ok hby h)
  have RDC := Aside0.mk (fun A c W h1 h2 => read A c l hby (by omega) W h1 h2)
  have RFC := Aside0.mk (fun W h1 => refRead A c l hby (by omega) W h1 hc)
  clear hr hc hl hby
  obtain ⟨d, hd⟩ : ∃ d, rD l = d := ⟨_, rfl⟩
  obtain ⟨e0, he0⟩ : ∃ e0, rE l = e0 := ⟨_, rfl⟩
  rw [hd] at HSM
  rw [hd, he0] at HOK RDC RFC
  clear hd he0
  go_enter Try.func7, Try.ntmps7
  go_wp2_with fail
  refine (head_calls _).mono ?_
  rintro e w1 ⟨rfl, hb⟩
  have HB := Aside0.mk hb
  clear hb
  go_wp2_with (first | ((with_reducible refine gate_dst (N := 11) rfl ?_); (try (refine gate_guard (by rfl) ?_; dsimp only)); refine Kd.R_lit (Kd.int .u8) _ 5 ?hg (N := 11) ?hd (xs := ([] : List Int)) (inner := []) (ok := fun _ => True) (okp := fun _ => True) ?hr ?hp (fun _ hk => hk) trivial (Below.refl _ _) (Nat.le_refl _) (by simp) ?_; (case hd => rfl); (case hg => rfl); (case hr => first | (go_simp; done) | (go_simp; rfl)); (case hp => exact (Reps.none _ _)); intro v14 w14 ho14 hb14 hgx_ hnx_; clear hgx_ hnx_) | ((with_reducible refine gate_builtin (b := .append) (xs := #[.tmp 11, .tmp 12]) rfl ?_); (try (refine gate_guard (by rfl) ?_; dsimp only)); at_builtin; refine Kd.R_append_rows (Kd.int .u8) (w0 := w1) w1.heap.size rfl (.tmp 11) (.tmp 12) 28 5 (.int .u8 0) 1 rfl Try.underlying28 info5 rfl (by decide) (by omega) v14 [] l _ _ _ (fun _ => True) (fun _ => False) rfl rfl ?aO ?aR (fun _ _ h => h) (fun _ h => h.elim) ?aF ?aB ?aS ?aL ?_; (case aO => exact ho14); (case aR => exact Kd.C_below HR0.out (below_step HB.out hb14)); (case aF => exact fun _ _ => trivial); (case aB => exact hb14); (case aS => exact hb14.size); (case aL => have := HL.out; simp only [List.length_cons, List.length_nil]; omega); intro v16 w16 ho16 hb16 hg16 hatx_; clear hatx_) | ((with_reducible refine gate_dst (N := 14) rfl ?_); (try (refine gate_guard (by rfl) ?_; dsimp only)); refine Kd.R_lit (Kd.int .u8) _ 5 ?hg (N := 14) ?hd (xs := ([77] : List Int)) (inner := [.int .u8 77]) (ok := fun _ => True) (okp := fun _ => True) ?hr ?hp (fun _ hk => hk) trivial (Below.refl _ _) (Nat.le_refl _) (by simp) ?_; (case hd => rfl); (case hg => rfl); (case hr => first | (go_simp; done) | (go_simp; rfl)); (case hp => exact (Reps.one (show Kd.M (Kd.int .u8) _ _ _ 77 [.int .u8 77] from rfl) (Reps.none _ _))); intro v17 w17 ho17 hb17 hgx_ hnx_; clear hgx_ hnx_) | ((with_reducible refine gate_builtin (b := .append) (xs := #[.tmp 13, .tmp 14]) rfl ?_); (try (refine gate_guard (by rfl) ?_; dsimp only)); at_builtin; obtain ⟨A17, c17, rfl, hc17, hC17⟩ := Kd.R_reads ho17; refine Kd.R_append_rows (Kd.int .u8) (w0 := w1) w1.heap.size rfl (.tmp 13) (.tmp 14) 28 5 (.int .u8 0) 1 rfl Try.underlying28 info5 rfl (by decide) (by omega) v16 l [77] _ _ _ (fun _ => True) (fun _ => False) rfl rfl ?aO ?aR (fun _ _ h => h) (fun _ h => h.elim) ?aF ?aB ?aS ?aL ?_; (case aO => exact Kd.R_below ho16 hb17); (case aR => exact hC17); (case aF => exact fun _ _ => trivial); (case aB => exact below_then hb16 hb16.size hb17); (case aS => exact Nat.le_trans hb16.size hb17.size); (case aL => have := HL.out; simp only [List.length_cons, List.length_nil]; omega); intro v18 w2 ho18 hb18 hg18 hatx_; clear hatx_))
  have RB := Aside0.mk (Kd.R_lower ho18 HB.out.size)
  obtain ⟨g, c18, cs, rfl, hg0, hcap, hcm, hcs, hgb, hgc⟩ := Args.own_open ho18 (by simp)
  have h77 := hgc l.length (by simp)
  have e77 : (l ++ [77]).getD l.length 0 = 77 := by simp [List.getD_eq_getElem?_getD]
  rw [e77] at h77
  have GB := Aside0.mk hgb
  have G77 := Aside0.mk h77
  have hcap1 : l.length + 1 ≤ c18 := by simpa using hcap
  have HC18 := Aside0.mk hcap1
  have HGL := Aside0.mk (blk_lt hgb)
  have HB2 := Aside0.mk (below_step HB.out hb18)
  have hCo := Kd.C_take (Kd.R_reads' ho18).2.2 (m := l.length) (by simp)
  rw [List.take_left] at hCo
  have HCO := Aside0.mk hCo
  obtain ⟨i5, hi5, hz5⟩ := Option.map_eq_some_iff.1 info5
  simp only [Prod.mk.injEq] at hz5
  have S1 : ∀ W : World, (Instr.slice 28 (.slice (some ⟨g, 0, none⟩) (l.length + 1) c18) none (some (.int .i64 l.length)) none).run Try.prog W = .ok (.slice (some ⟨g, 0, none⟩) l.length c18) W := fun W => by
    have := (print_take_of (P := Try.prog) (Value.int .u8) 0 28 5 .i64 Try.underlying28 hi5 hz5.2.1 (some ⟨g, 0, none⟩) c18 (l ++ [77]) l.length (by omega) (by simp only [List.length_append, List.length_cons, List.length_nil]; omega) hcap).1 W
    simpa using this
  have S1b : ∀ W : World, (Instr.slice 28 (.slice (some ⟨g, 0, none⟩) (l ++ [77]).length c18) none (some (.int .i64 l.length)) none).run Try.prog W = .ok (.slice (some ⟨g, 0, none⟩) l.length c18) W := fun W => by
    rw [List.length_append]; exact S1 W
  go_simp
  clear hgc hgb hcs hcm hcap hg0 hb18 ho18 hg18 hb17 ho17 hb16 ho16 hb14 ho14 hC17 hc17 hi5 hz5 hg16 h77 e77 hCo hcap1 RB
  go_wp2_with fail
  refine (RDC.out _ c18 w2 HCO.out (by have := HC18.out; omega)).mono ?_
  rintro e w3 ⟨rfl, hb3⟩
  have HB4 := Aside0.mk (show Below w.heap.size w (w3.alloc (.cells #[.int .u32 (U d.nr), .int .u32 (U d.arch), .int .u64 (U d.ip), .int .u64 (U d.a0), .int .u64 (U d.a1), .int .u64 (U d.a2), .int .u64 (U d.a3), .int .u64 (U d.a4), .int .u64 (U d.a5)] 26)) from below_alloc (below_step HB2.out hb3) _)
  have BL4 := Aside0.mk (show Below w2.heap.size w2 (w3.alloc (.cells #[.int .u32 (U d.nr), .int .u32 (U d.arch), .int .u64 (U d.ip), .int .u64 (U d.a0), .int .u64 (U d.a1), .int .u64 (U d.a2), .int .u64 (U d.a3), .int .u64 (U d.a4), .int .u64 (U d.a5)] 26)) from below_alloc hb3 _)
  have BD4 := Aside0.mk (blk_new w3 (.cells #[.int .u32 (U d.nr), .int .u32 (U d.arch), .int .u64 (U d.ip), .int .u64 (U d.a0), .int .u64 (U d.a1), .int .u64 (U d.a2), .int .u64 (U d.a3), .int .u64 (U d.a4), .int .u64 (U d.a5)] 26))
  have HCR := Aside0.mk (Kd.C_below HR0.out HB4.out)
  clear hb3 S1 S1b RDC
  go_wp2_with fail
  refine (RFC.out _ HCR.out).mono ?_
  rintro e w4 ⟨rfl, hb4⟩
  have HB6 := Aside0.mk (show Below w.heap.size w (w4.alloc (.cells #[.int .u32 (U d.nr), .int .u32 (U d.arch), .int .u64 (U d.ip), .int .u64 (U d.a0), .int .u64 (U d.a1), .int .u64 (U d.a2), .int .u64 (U d.a3), .int .u64 (U d.a4), .int .u64 (U d.a5)] 26)) from below_alloc (below_step HB4.out hb4) _)
  have BL6 := Aside0.mk (show Below w2.heap.size w2 (w4.alloc (.cells #[.int .u32 (U d.nr), .int .u32 (U d.arch), .int .u64 (U d.ip), .int .u64 (U d.a0), .int .u64 (U d.a1), .int .u64 (U d.a2), .int .u64 (U d.a3), .int .u64 (U d.a4), .int .u64 (U d.a5)] 26)) from below_alloc (below_step BL4.out hb4) _)
  have BD6 := Aside0.mk (blk_alloc (blk_below BD4.out hb4) (.cells #[.int .u32 (U d.nr), .int .u32 (U d.arch), .int .u64 (U d.ip), .int .u64 (U d.a0), .int .u64 (U d.a1), .int .u64 (U d.a2), .int .u64 (U d.a3), .int .u64 (U d.a4), .int .u64 (U d.a5)] 26))
  have BF6 := Aside0.mk (blk_new w4 (.cells #[.int .u32 (U d.nr), .int .u32 (U d.arch), .int .u64 (U d.ip), .int .u64 (U d.a0), .int .u64 (U d.a1), .int .u64 (U d.a2), .int .u64 (U d.a3), .int .u64 (U d.a4), .int .u64 (U d.a5)] 26))
  clear hb4 HB4 BL4 BD4 RFC HCR
  have k1 := Kd.C_string (P := Try.prog) (src := 28) (dst := 9) (c := c18) Try.underlying28 Try.underlying5 Try.underlying9 (Kd.C_below HCO.out BL6.out)
  have k2 := Kd.C_string (P := Try.prog) (src := 28) (dst := 9) (c := c) Try.underlying28 Try.underlying5 Try.underlying9 (Kd.C_below HR0.out HB6.out)
  have hcap2 : (l.length : Int) + 1 ≤ (c18 : Int) := by have := HC18.out; omega
  have hlen2 : (l.length : Int) < 140737488355327 := by have := HL.out; omega
  have hc77 := (blk_cell (blk_below GB.out BL6.out) l.length).trans G77.out
  obtain ⟨c0, c1, c2, c3, c4, c5, c6, c7, c8⟩ := cells_of BD6.out
  obtain ⟨n0, n1, n2, n3, n4, n5, n6, n7, n8⟩ := cells_of BF6.out
  have heq : ∀ W, (Op.equalIn 10000 26 (.agg #[.int .u32 (U d.nr), .int .u32 (U d.arch), .int .u64 (U d.ip), .int .u64 (U d.a0), .int .u64 (U d.a1), .int .u64 (U d.a2), .int .u64 (U d.a3), .int .u64 (U d.a4), .int .u64 (U d.a5)]) (.agg #[.int .u32 (U d.nr), .int .u32 (U d.arch), .int .u64 (U d.ip), .int .u64 (U d.a0), .int .u64 (U d.a1), .int .u64 (U d.a2), .int .u64 (U d.a3), .int .u64 (U d.a4), .int .u64 (U d.a5)])).run Try.prog W = .ok (eqB d d) W := fun W => eq_data d d HSM.out HSM.out W
  rw [show eqB d d = true from (eqB_iff d d).2 rfl] at heq
  go_wp2_with fail
  clear k1 k2 hcap2 hlen2 hc77 n0 n1 n2 n3 n4 n5 n6 n7 n8 heq c0 c1 c2 c3 c4 c5 c6 c7 c8 BF6 GB G77 HC18 HCO HGL BL6
  generalize hw6 : w4.alloc (.cells #[.int .u32 (U d.nr), .int .u32 (U d.arch), .int .u64 (U d.ip), .int .u64 (U d.a0), .int .u64 (U d.a1), .int .u64 (U d.a2), .int .u64 (U d.a3), .int .u64 (U d.a4), .int .u64 (U d.a5)] 26) = w6 at HB6 BD6 ⊢
  clear hw6
  obtain ⟨c0, c1, c2, c3, c4, c5', c6, c7, c8⟩ := cells_of BD6.out
  by_cases he : e0 = 0
  · subst he
    obtain ⟨hdl, hl64⟩ := HOK.out rfl
    have T1 := Aside0.mk (fun W => bytes_str d W)
    rw [hdl] at T1
    have CX := Aside0.mk (show ∀ W, Below w6.heap.size w6 W → W.heap[w3.heap.size]? = some (.cells #[.int .u32 (U d.nr), .int .u32 (U d.arch), .int .u64 (U d.ip), .int .u64 (U d.a0), .int .u64 (U d.a1), .int .u64 (U d.a2), .int .u64 (U d.a3), .int .u64 (U d.a4), .int .u64 (U d.a5)] 26 (0, 0)) from fun W h => blk_below BD6.out h)
    have KKL := Aside0.mk (show ∀ W, Below w6.heap.size w6 W → (convert 28 9 (.slice A l.length c)).run Try.prog W = .ok (.string (strOfNums l)) W from fun W h => Kd.C_string Try.underlying28 Try.underlying5 Try.underlying9 (Kd.C_below HR0.out (below_step HB6.out h)))
    have L0 : Below w6.heap.size w6 w6.drew := below_drew (Below.refl _ _)
    have kk1 := KKL.out _ L0
    clear hdl hl64 HOK HL
    refine start_ (n := 11) (S := fun w' => w'.cell? ⟨w3.heap.size, 0, none⟩ = some (.int .u32 (U d.nr)) ∧ w'.cell? ⟨w3.heap.size, 1, none⟩ = some (.int .u32 (U d.arch)) ∧ w'.cell? ⟨w3.heap.size, 2, none⟩ = some (.int .u64 (U d.ip)) ∧ w'.cell? ⟨w3.heap.size, 3, none⟩ = some (.int .u64 (U d.a0)) ∧ w'.cell? ⟨w3.heap.size, 4, none⟩ = some (.int .u64 (U d.a1)) ∧ w'.cell? ⟨w3.heap.size, 5, none⟩ = some (.int .u64 (U d.a2)) ∧ w'.cell? ⟨w3.heap.size, 6, none⟩ = some (.int .u64 (U d.a3)) ∧ w'.cell? ⟨w3.heap.size, 7, none⟩ = some (.int .u64 (U d.a4)) ∧ w'.cell? ⟨w3.heap.size, 8, none⟩ = some (.int .u64 (U d.a5))) (ds := []) #[false, false, false, false, false, false, false, false, false, false, false] (by kernel_rfl) rfl rfl ⟨((blk_cell (CX.out _ L0) 0).trans rfl), ((blk_cell (CX.out _ L0) 1).trans rfl), ((blk_cell (CX.out _ L0) 2).trans rfl), ((blk_cell (CX.out _ L0) 3).trans rfl), ((blk_cell (CX.out _ L0) 4).trans rfl), ((blk_cell (CX.out _ L0) 5).trans rfl), ((blk_cell (CX.out _ L0) 6).trans rfl), ((blk_cell (CX.out _ L0) 7).trans rfl), ((blk_cell (CX.out _ L0) 8).trans rfl)⟩ (fun hHeld => ?_)
    refine pure_ (i := 0) (N := some 62) (v := ?_) (a' := ?_) #[true, false, false, false, false, false, false, false, false, false, false] rfl rfl (by kernel_rfl) (fun _ _ _ h => h) (Or.inl ⟨by rfl, ?_⟩) ?_ ?_
    rotate_left
    · intro w'
      go_simp
      with_reducible rfl
    rotate_left
    · simp only [Act.put, List.setIfInBounds_toArray, List.set_cons_zero, List.set_cons_succ, i64_w, i32_w]
      rfl
    refine pure_ (i := 1) (N := some 63) (v := ?_) (a' := ?_) #[true, true, false, false, false, false, false, false, false, false, false] rfl rfl (by kernel_rfl) (fun _ _ _ h => h) (Or.inl ⟨by rfl, ?_⟩) ?_ ?_
    rotate_left
    · intro w'
      go_simp
      with_reducible rfl
    rotate_left
    · simp only [Act.put, List.setIfInBounds_toArray, List.set_cons_zero, List.set_cons_succ, i64_w, i32_w]
      rfl
    refine pure_ (i := 2) (N := some 64) (v := ?_) (a' := ?_) #[true, true, true, false, false, false, false, false, false, false, false] rfl rfl (by kernel_rfl) (fun _ _ _ h => h) (Or.inl ⟨by rfl, ?_⟩) ?_ ?_
    rotate_left
    · intro w'
      go_simp
      with_reducible rfl
    rotate_left
    · simp only [Act.put, List.setIfInBounds_toArray, List.set_cons_zero, List.set_cons_succ, i64_w, i32_w]
      rfl
    refine pure_ (i := 6) (N := some 68) (v := ?_) (a' := ?_) #[true, true, true, false, false, false, true, false, false, false, false] rfl rfl (by kernel_rfl) (fun _ _ _ h => h) (Or.inl ⟨by rfl, ?_⟩) ?_ ?_
    rotate_left
    · intro w'
      go_simp
      with_reducible rfl
    rotate_left
    · simp only [Act.put, List.setIfInBounds_toArray, List.set_cons_zero, List.set_cons_succ, i64_w, i32_w]
      rfl
    refine take_ (i := 3) (N := some 65) (v := ?_) (a' := ?_) #[true, true, true, true, false, false, true, false, false, false, false] rfl rfl (by kernel_rfl) (fun _ _ _ h => h) (Or.inl ⟨by rfl, ?_⟩) hHeld ?_ ?_
    rotate_left
    · rintro w' ⟨s0, s1, s2, s3, s4, s5, s6, s7, s8⟩
      go_simp
      with_reducible rfl
    rotate_left
    · simp only [Act.put, List.setIfInBounds_toArray, List.set_cons_zero, List.set_cons_succ, i64_w, i32_w]
      rfl
    refine join_ (σ := Option Addr × Nat) 3 #[true, true, true, true, true, true, true, true, false, false, false] (fun s => [(66, Value.slice s.1 64 s.2), (67, Value.string (strOfNums l)), (69, Value.string (strOfNums l))]) (fun _ w' => Below w6.heap.size w6 w') ?_ ?_
    rotate_left
    · intro hCont
      refine two_ (i := 4) (j := 7) (Ni := some 66) (Nj := some 69) #[true, true, true, true, true, false, true, false, false, false, false] #[true, true, true, true, false, false, true, true, false, false, false] rfl rfl rfl rfl (by kernel_rfl) (by decide) (by decide) (fun K hK => ?_) (fun K hK => ?_)
      · skip
        refine goes_ Try.func11 (by kernel_rfl) rfl #[.agg #[.int .u32 (U d.nr), .int .u32 (U d.arch), .int .u64 (U d.ip), .int .u64 (U d.a0), .int .u64 (U d.a1), .int .u64 (U d.a2), .int .u64 (U d.a3), .int .u64 (U d.a4), .int .u64 (U d.a5)]] (by rfl) rfl rfl (by simp only [List.map_toArray, List.map_cons, List.map_nil]; rfl) ?_
        with_reducible refine (T1.out _).mono ?_
        rintro e w9 ⟨A9, c9, rfl, hb9, k9⟩
        refine ⟨_, rfl, ?_⟩
        have L1 := below_step L0 hb9
        have kk2 := KKL.out _ L1
        refine hK.out _ _ ⟨((blk_cell (CX.out _ L1) 0).trans rfl), ((blk_cell (CX.out _ L1) 1).trans rfl), ((blk_cell (CX.out _ L1) 2).trans rfl), ((blk_cell (CX.out _ L1) 3).trans rfl), ((blk_cell (CX.out _ L1) 4).trans rfl), ((blk_cell (CX.out _ L1) 5).trans rfl), ((blk_cell (CX.out _ L1) 6).trans rfl), ((blk_cell (CX.out _ L1) 7).trans rfl), ((blk_cell (CX.out _ L1) 8).trans rfl)⟩ (fun hHeld => ?_)
        clear hK K
        refine norm_ (a' := ?_) ?_ ?_
        rotate_left
        · show Act.put _ (some 66) _ = _
          simp only [Act.put, List.setIfInBounds_toArray, List.set_cons_zero, List.set_cons_succ, i64_w, i32_w]
          rfl
        refine two_ (i := 5) (j := 7) (Ni := some 67) (Nj := some 69) #[true, true, true, true, true, true, true, false, false, false, false] #[true, true, true, true, true, false, true, true, false, false, false] rfl rfl rfl rfl (by kernel_rfl) (by decide) (by decide) (fun K hK => ?_) (fun K hK => ?_)
        · skip
          refine value_ (w1 := ?_) (v := ?_) (by rfl) rfl ?_ ?_
          rotate_left 2
          · go_simp
            constructor
            · rfl
            · rfl
          refine hK.out _ _ ⟨((blk_cell (CX.out _ L1) 0).trans rfl), ((blk_cell (CX.out _ L1) 1).trans rfl), ((blk_cell (CX.out _ L1) 2).trans rfl), ((blk_cell (CX.out _ L1) 3).trans rfl), ((blk_cell (CX.out _ L1) 4).trans rfl), ((blk_cell (CX.out _ L1) 5).trans rfl), ((blk_cell (CX.out _ L1) 6).trans rfl), ((blk_cell (CX.out _ L1) 7).trans rfl), ((blk_cell (CX.out _ L1) 8).trans rfl)⟩ (fun hHeld => ?_)
          clear hK K
          refine norm_ (a' := ?_) ?_ ?_
          rotate_left
          · show Act.put _ (some 67) _ = _
            simp only [Act.put, List.setIfInBounds_toArray, List.set_cons_zero, List.set_cons_succ, i64_w, i32_w]
            rfl
          refine one_ (i := 7) (N := some 69) #[true, true, true, true, true, true, true, true, false, false, false] rfl rfl (by kernel_rfl) (by decide) (fun K hK => ?_)
          refine value_ (w1 := ?_) (v := ?_) (by rfl) rfl ?_ ?_
          rotate_left 2
          · go_simp
            constructor
            · rfl
            · rfl
          refine hK.out _ _ ⟨((blk_cell (CX.out _ L1) 0).trans rfl), ((blk_cell (CX.out _ L1) 1).trans rfl), ((blk_cell (CX.out _ L1) 2).trans rfl), ((blk_cell (CX.out _ L1) 3).trans rfl), ((blk_cell (CX.out _ L1) 4).trans rfl), ((blk_cell (CX.out _ L1) 5).trans rfl), ((blk_cell (CX.out _ L1) 6).trans rfl), ((blk_cell (CX.out _ L1) 7).trans rfl), ((blk_cell (CX.out _ L1) 8).trans rfl)⟩ (fun hHeld => ?_)
          clear hK K
          refine norm_ (a' := ?_) ?_ ?_
          rotate_left
          · show Act.put _ (some 69) _ = _
            simp only [Act.put, List.setIfInBounds_toArray, List.set_cons_zero, List.set_cons_succ, i64_w, i32_w]
            rfl
          exact norm_ (by simp only [putAll, Act.put, List.setIfInBounds_toArray, List.set_cons_zero, List.set_cons_succ]) (hCont (A9, c9) _ L1)
        · skip
          refine value_ (w1 := ?_) (v := ?_) (by rfl) rfl ?_ ?_
          rotate_left 2
          · go_simp
            constructor
            · rfl
            · rfl
          refine hK.out _ _ ⟨((blk_cell (CX.out _ L1) 0).trans rfl), ((blk_cell (CX.out _ L1) 1).trans rfl), ((blk_cell (CX.out _ L1) 2).trans rfl), ((blk_cell (CX.out _ L1) 3).trans rfl), ((blk_cell (CX.out _ L1) 4).trans rfl), ((blk_cell (CX.out _ L1) 5).trans rfl), ((blk_cell (CX.out _ L1) 6).trans rfl), ((blk_cell (CX.out _ L1) 7).trans rfl), ((blk_cell (CX.out _ L1) 8).trans rfl)⟩ (fun hHeld => ?_)
          clear hK K
          refine norm_ (a' := ?_) ?_ ?_
          rotate_left
          · show Act.put _ (some 69) _ = _
            simp only [Act.put, List.setIfInBounds_toArray, List.set_cons_zero, List.set_cons_succ, i64_w, i32_w]
            rfl
          refine one_ (i := 5) (N := some 67) #[true, true, true, true, true, true, true, true, false, false, false] rfl rfl (by kernel_rfl) (by decide) (fun K hK => ?_)
          refine value_ (w1 := ?_) (v := ?_) (by rfl) rfl ?_ ?_
          rotate_left 2
          · go_simp
            constructor
            · rfl
            · rfl
          refine hK.out _ _ ⟨((blk_cell (CX.out _ L1) 0).trans rfl), ((blk_cell (CX.out _ L1) 1).trans rfl), ((blk_cell (CX.out _ L1) 2).trans rfl), ((blk_cell (CX.out _ L1) 3).trans rfl), ((blk_cell (CX.out _ L1) 4).trans rfl), ((blk_cell (CX.out _ L1) 5).trans rfl), ((blk_cell (CX.out _ L1) 6).trans rfl), ((blk_cell (CX.out _ L1) 7).trans rfl), ((blk_cell (CX.out _ L1) 8).trans rfl)⟩ (fun hHeld => ?_)
          clear hK K
          refine norm_ (a' := ?_) ?_ ?_
          rotate_left
          · show Act.put _ (some 67) _ = _
            simp only [Act.put, List.setIfInBounds_toArray, List.set_cons_zero, List.set_cons_succ, i64_w, i32_w]
            rfl
          exact norm_ (by simp only [putAll, Act.put, List.setIfInBounds_toArray, List.set_cons_zero, List.set_cons_succ]) (hCont (A9, c9) _ L1)
      · skip
        refine value_ (w1 := ?_) (v := ?_) (by rfl) rfl ?_ ?_
        rotate_left 2
        · go_simp
          constructor
          · rfl
          · rfl
        refine hK.out _ _ ⟨((blk_cell (CX.out _ L0) 0).trans rfl), ((blk_cell (CX.out _ L0) 1).trans rfl), ((blk_cell (CX.out _ L0) 2).trans rfl), ((blk_cell (CX.out _ L0) 3).trans rfl), ((blk_cell (CX.out _ L0) 4).trans rfl), ((blk_cell (CX.out _ L0) 5).trans rfl), ((blk_cell (CX.out _ L0) 6).trans rfl), ((blk_cell (CX.out _ L0) 7).trans rfl), ((blk_cell (CX.out _ L0) 8).trans rfl)⟩ (fun hHeld => ?_)
        clear hK K
        refine norm_ (a' := ?_) ?_ ?_
        rotate_left
        · show Act.put _ (some 69) _ = _
          simp only [Act.put, List.setIfInBounds_toArray, List.set_cons_zero, List.set_cons_succ, i64_w, i32_w]
          rfl
        refine one_ (i := 4) (N := some 66) #[true, true, true, true, true, false, true, true, false, false, false] rfl rfl (by kernel_rfl) (by decide) (fun K hK => ?_)
        refine goes_ Try.func11 (by kernel_rfl) rfl #[.agg #[.int .u32 (U d.nr), .int .u32 (U d.arch), .int .u64 (U d.ip), .int .u64 (U d.a0), .int .u64 (U d.a1), .int .u64 (U d.a2), .int .u64 (U d.a3), .int .u64 (U d.a4), .int .u64 (U d.a5)]] (by rfl) rfl rfl (by simp only [List.map_toArray, List.map_cons, List.map_nil]; rfl) ?_
        with_reducible refine (T1.out _).mono ?_
        rintro e w9 ⟨A9, c9, rfl, hb9, k9⟩
        refine ⟨_, rfl, ?_⟩
        have L1 := below_step L0 hb9
        have kk2 := KKL.out _ L1
        refine hK.out _ _ ⟨((blk_cell (CX.out _ L1) 0).trans rfl), ((blk_cell (CX.out _ L1) 1).trans rfl), ((blk_cell (CX.out _ L1) 2).trans rfl), ((blk_cell (CX.out _ L1) 3).trans rfl), ((blk_cell (CX.out _ L1) 4).trans rfl), ((blk_cell (CX.out _ L1) 5).trans rfl), ((blk_cell (CX.out _ L1) 6).trans rfl), ((blk_cell (CX.out _ L1) 7).trans rfl), ((blk_cell (CX.out _ L1) 8).trans rfl)⟩ (fun hHeld => ?_)
        clear hK K
        refine norm_ (a' := ?_) ?_ ?_
        rotate_left
        · show Act.put _ (some 66) _ = _
          simp only [Act.put, List.setIfInBounds_toArray, List.set_cons_zero, List.set_cons_succ, i64_w, i32_w]
          rfl
        refine one_ (i := 5) (N := some 67) #[true, true, true, true, true, true, true, true, false, false, false] rfl rfl (by kernel_rfl) (by decide) (fun K hK => ?_)
        refine value_ (w1 := ?_) (v := ?_) (by rfl) rfl ?_ ?_
        rotate_left 2
        · go_simp
          constructor
          · rfl
          · rfl
        refine hK.out _ _ ⟨((blk_cell (CX.out _ L1) 0).trans rfl), ((blk_cell (CX.out _ L1) 1).trans rfl), ((blk_cell (CX.out _ L1) 2).trans rfl), ((blk_cell (CX.out _ L1) 3).trans rfl), ((blk_cell (CX.out _ L1) 4).trans rfl), ((blk_cell (CX.out _ L1) 5).trans rfl), ((blk_cell (CX.out _ L1) 6).trans rfl), ((blk_cell (CX.out _ L1) 7).trans rfl), ((blk_cell (CX.out _ L1) 8).trans rfl)⟩ (fun hHeld => ?_)
        clear hK K
        refine norm_ (a' := ?_) ?_ ?_
        rotate_left
        · show Act.put _ (some 67) _ = _
          simp only [Act.put, List.setIfInBounds_toArray, List.set_cons_zero, List.set_cons_succ, i64_w, i32_w]
          rfl
        exact norm_ (by simp only [putAll, Act.put, List.setIfInBounds_toArray, List.set_cons_zero, List.set_cons_succ]) (hCont (A9, c9) _ L1)
    rintro ⟨A9, c9⟩ w9 L1
    have hHeld : w9.cell? ⟨w3.heap.size, 0, none⟩ = some (.int .u32 (U d.nr)) ∧ w9.cell? ⟨w3.heap.size, 1, none⟩ = some (.int .u32 (U d.arch)) ∧ w9.cell? ⟨w3.heap.size, 2, none⟩ = some (.int .u64 (U d.ip)) ∧ w9.cell? ⟨w3.heap.size, 3, none⟩ = some (.int .u64 (U d.a0)) ∧ w9.cell? ⟨w3.heap.size, 4, none⟩ = some (.int .u64 (U d.a1)) ∧ w9.cell? ⟨w3.heap.size, 5, none⟩ = some (.int .u64 (U d.a2)) ∧ w9.cell? ⟨w3.heap.size, 6, none⟩ = some (.int .u64 (U d.a3)) ∧ w9.cell? ⟨w3.heap.size, 7, none⟩ = some (.int .u64 (U d.a4)) ∧ w9.cell? ⟨w3.heap.size, 8, none⟩ = some (.int .u64 (U d.a5)) := ⟨((blk_cell (CX.out _ L1) 0).trans rfl), ((blk_cell (CX.out _ L1) 1).trans rfl), ((blk_cell (CX.out _ L1) 2).trans rfl), ((blk_cell (CX.out _ L1) 3).trans rfl), ((blk_cell (CX.out _ L1) 4).trans rfl), ((blk_cell (CX.out _ L1) 5).trans rfl), ((blk_cell (CX.out _ L1) 6).trans rfl), ((blk_cell (CX.out _ L1) 7).trans rfl), ((blk_cell (CX.out _ L1) 8).trans rfl)⟩
    refine norm_ (a' := ?_) ?_ ?_
    rotate_left
    · simp only [putAll, Act.put, List.setIfInBounds_toArray, List.set_cons_zero, List.set_cons_succ]
      rfl
    refine pure_ (i := 8) (N := some 70) (v := ?_) (a' := ?_) #[true, true, true, true, true, true, true, true, true, false, false] rfl rfl (by kernel_rfl) (fun _ _ _ h => h) (Or.inl ⟨by rfl, ?_⟩) ?_ ?_
    rotate_left
    · intro w'
      go_simp
      with_reducible rfl
    rotate_left
    · simp only [Act.put, List.setIfInBounds_toArray, List.set_cons_zero, List.set_cons_succ, i64_w, i32_w]
      rfl
    refine pure_ (i := 9) (N := some 71) (v := ?_) (a' := ?_) #[true, true, true, true, true, true, true, true, true, true, false] rfl rfl (by kernel_rfl) (fun _ _ _ h => h) (Or.inl ⟨by rfl, ?_⟩) ?_ ?_
    rotate_left
    · intro w'
      go_simp
      with_reducible rfl
    rotate_left
    · simp only [Act.put, List.setIfInBounds_toArray, List.set_cons_zero, List.set_cons_succ, i64_w, i32_w]
      rfl
    refine pure_ (i := 10) (N := some 2) (v := ?_) (a' := ?_) #[true, true, true, true, true, true, true, true, true, true, true] rfl rfl (by kernel_rfl) (fun _ _ _ h => h) (Or.inl ⟨by rfl, ?_⟩) ?_ ?_
    rotate_left
    · intro w'
      go_simp
      with_reducible rfl
    rotate_left
    · simp only [Act.put, List.setIfInBounds_toArray, List.set_cons_zero, List.set_cons_succ, i64_w, i32_w]
      rfl
    refine done_ (by kernel_rfl) ?_
    have HB9 := Aside0.mk (below_step HB6.out L1)
    clear hHeld L1 L0 kk1 CX KKL
    go_wp2
    go_ret
    exact ⟨rfl, HB9.out⟩
  · have he1 : (e0 == 0) = false := by simpa using he
    have he2 : (e0 != 0) = true := by simpa using he
    go_quiet (fail)
    have HB9 := Aside0.mk (pw_below_drewN HB6.out nq)
    go_wp2
    go_ret
    exact ⟨rfl, HB9.out⟩
end Go.Proofs.Ytplplillpjnnnaa.ReadsWalk
