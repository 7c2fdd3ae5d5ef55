/- The walk of the law WordStored: out of what its callees' Lean functions answer, the law returns true; nothing that was there changes. Conditions: those of each theorem. -/
import Derived.Test.YtppbbhpaoflhnaaPWordStoredx1
import Derived.Deep.QuietTactic
import Derived.BigQuiet
namespace Go.Proofs.Ytppbbhpaoflhnaa.StoredWalk
open Go.RowKit Go.Proofs.Ytppbbhpaoflhnaa.PWordStored Go.Proofs.YtppbbhpaoflhnaaW.PrintWords Go.Proofs.YtppbbhpaoflhnaaW.PrintLast Go.Proofs.YtppbbhpaoflhnaaW.PrintMore

theorem box_facts {w w1 : World} {o : Obj} (hb : Below (w.alloc o).heap.size (w.alloc o) w1) : w1.heap[w.heap.size]? = some o ∧ w.heap.size < w1.heap.size ∧ Below w.heap.size w w1 := by
  refine ⟨blk_below (blk_new w o) hb, ?_, below_step (below_alloc (Below.refl _ _) _) hb⟩
  have := hb.size
  rw [World.size_alloc] at this
  omega
set_option maxRecDepth 100000 in
set_option maxHeartbeats 800000 in
theorem walk_ok (k : Nat) (A : Option Addr) (c : Nat) (l : List Int) (at_ n v : Int) (w : World) (hr : Kd.C (Kd.int .u8) w A l.length l) (hc : l.length ≤ c) (hl : l.length < 140737488355328)
    (hh : ravelinlaw01_head.f k = some true) (l2 : List Int) (hs : word_Store.f k l at_ n v = some (0, l2)) (hl2 : l2.length = l.length) (u : Int) (hld : word_Load.f k l2 at_ n = some (u, 0)) (hz : word_Zext.f v (8 * n) = some u) (h0 : 0 ≤ at_) (h1 : 1 ≤ n) (h2 : n ≤ 8) (h3 : at_ + n ≤ l.length) (ht : l2.take at_.toNat = l.take at_.toNat) (hd : l2.drop (at_ + n).toNat = l.drop (at_ + n).toNat) :
    Calls Try.prog 9 #[.slice A l.length c, .agg #[.int .i64 at_, .int .i64 n, .int .u64 v]] w fun e w' => e = .returned (.bool true) ∧ Below w.heap.size w w' := by
  have HR0 := Aside0.mk hr
  have HC := Aside0.mk hc
  have HH := Aside0.mk hh
  have HL := Aside0.mk hl
  have HS := Aside0.mk hs
  have HLD := Aside0.mk hld
  have HZ := Aside0.mk hz
  have HT := Aside0.mk ht
  have HD := Aside0.mk hd
  have HL2 := Aside0.mk hl2
  have H0 := Aside0.mk h0
  have H1 := Aside0.mk h1
  have H2 := Aside0.mk h2
  have H3 := Aside0.mk h3
  clear hr hc hh hl hs hld hz ht hd hl2 h0 h1 h2 h3
  go_enter Try.func9, Try.ntmps9
  go_wp2_with fail
  refine (ravelinlaw01_head.calls k true _ HH.out).mono ?_
  rintro e w1 ⟨rfl, hb⟩
  obtain ⟨BX0, BL0, HB0⟩ := box_facts hb
  have HB := Aside0.mk HB0
  have BX := Aside0.mk BX0
  have BL := Aside0.mk BL0
  clear hb HB0 BX0 BL0
  go_upto_region 3 with (first | ((with_reducible refine gate_dst (N := 11) rfl ?_); (try (refine gate_guard (by rfl) ?_; dsimp only)); refine Kd.R_lit (Kd.int .u8) _ 5 ?hg (N := 11) ?hd (xs := ([] : List Int)) (inner := []) (ok := fun _ => True) (okp := fun _ => True) ?hr ?hp (fun _ hk => hk) trivial (Below.refl _ _) (Nat.le_refl _) (by simp) ?_; (case hd => rfl); (case hg => rfl); (case hr => first | (go_simp; done) | (go_simp; rfl)); (case hp => exact (Reps.none _ _)); intro v116 w7 ho8 hb hg_ hnew_; clear hg_ hnew_) | ((with_reducible refine gate_builtin (b := .append) (xs := #[.tmp 11, .tmp 12]) rfl ?_); (try (refine gate_guard (by rfl) ?_; dsimp only)); at_builtin; refine Kd.R_append_rows (Kd.int .u8) (w0 := w1) w1.heap.size rfl (.tmp 11) (.tmp 12) 43 5 (.int .u8 0) 1 rfl Try.underlying43 info5 rfl (by decide) (by omega) v116 [] l _ _ _ (fun _ => True) (fun _ => False) rfl rfl ?aO ?aR (fun _ _ h => h) (fun _ h => h.elim) ?aF ?aB ?aS ?aL ?_; (case aO => exact ho8); (case aR => exact Kd.C_below HR0.out (below_step HB.out hb)); (case aF => exact fun _ _ => trivial); (case aB => exact hb); (case aS => exact hb.size); (case aL => have := HL.out; simp only [List.length_nil]; omega); intro v119 w9 ho hb9 hg hat))
  clear hat
  have e0 : ([] ++ l : List Int) = l := rfl
  rw [e0] at ho
  clear e0
  have BX9 := Aside0.mk (blk_below BX.out hb9)
  have HB9 := Aside0.mk (below_then HB.out HB.out.size hb9)
  have HO9 := Aside0.mk ho
  have HD9 := Aside0.mk hb9
  have HBk := HB
  clear ho hb9 hg hb ho8 HB
  have d0 := blk_cell BX9.out 0
  have d1 := blk_cell BX9.out 1
  have d2 := blk_cell BX9.out 2
  simp only [List.getElem?_toArray, List.getElem?_cons_zero, List.getElem?_cons_succ] at d0 d1 d2
  go_wp2_with fail
  clear d0 d1 d2
  refine (word_Store.calls k _ _ l at_ n v 0 l2 w1 _ HD9.out HO9.out HS.out).mono ?_
  rintro e w10 ⟨rfl, hr10, hb10, hk10⟩
  have BX10 := Aside0.mk (blk_below BX.out hb10)
  have HB10 := Aside0.mk (below_then HBk.out HBk.out.size hb10)
  clear hb10 hk10 HB9 HO9 HD9 BX9 HBk
  obtain ⟨A2, c2, rfl, hc2, hC2⟩ := Kd.R_reads hr10
  have d0 := blk_cell BX10.out 0
  have d1 := blk_cell BX10.out 1
  simp only [List.getElem?_toArray, List.getElem?_cons_zero, List.getElem?_cons_succ] at d0 d1
  have HC2 := Aside0.mk hC2
  have Hc2 := Aside0.mk hc2
  clear hr10 hC2 hc2
  go_wp2_with fail
  clear d0 d1
  refine (word_Load.calls k A2 c2 l2 at_ n u 0 _ HC2.out Hc2.out HLD.out).mono ?_
  rintro e w11 ⟨rfl, hw11⟩
  obtain ⟨m11, rfl⟩ := hw11.out
  have BX11 := Aside0.mk (blk_drewN BX10.out m11)
  have HB11 := Aside0.mk (pw_below_drewN HB10.out m11)
  have HC11 := Aside0.mk (Kd.C_drewN HC2.out m11)
  clear hw11 HC2 HB10 BX10
  generalize w10.drewN m11 = w11 at BX11 HB11 HC11 ⊢
  have d0 := blk_cell BX11.out 0
  have d1 := blk_cell BX11.out 1
  have d2 := blk_cell BX11.out 2
  simp only [List.getElem?_toArray, List.getElem?_cons_zero, List.getElem?_cons_succ] at d0 d1 d2
  obtain ⟨i5, hi5, hz5⟩ := Option.map_eq_some_iff.1 info5
  simp only [Prod.mk.injEq] at hz5
  have E1 := Aside0.mk (show IntKind.i64.wrap (8 * n) = 8 * n by have := H1.out; have := H2.out; rw [i64_w]; unfold wrap64; omega)
  have E2 := Aside0.mk (show IntKind.i64.wrap (at_ + n) = at_ + n by have := H1.out; have := H2.out; have := H0.out; have := H3.out; have := HL.out; rw [i64_w]; unfold wrap64; omega)
  have S1 := (print_take_of (P := Try.prog) (Value.int .u8) 0 43 5 .i64 Try.underlying43 hi5 hz5.2.1 A2 c2 l2 at_ H0.out (by have := HL2.out; have := H3.out; have := H1.out; omega) Hc2.out)
  have S2 := (print_take_of (P := Try.prog) (Value.int .u8) 0 43 5 .i64 Try.underlying43 hi5 hz5.2.1 A c l at_ H0.out (by have := H3.out; have := H1.out; omega) HC.out)
  obtain ⟨A3, S3⟩ := (print_drop_of (P := Try.prog) (Value.int .u8) 0 43 5 .i64 Try.underlying43 hi5 hz5.2.1 A2 c2 l2 (at_ + n) (by have := H0.out; have := H1.out; omega) (by have := HL2.out; have := H3.out; omega) Hc2.out)
  obtain ⟨A4, S4⟩ := (print_drop_of (P := Try.prog) (Value.int .u8) 0 43 5 .i64 Try.underlying43 hi5 hz5.2.1 A c l (at_ + n) (by have := H0.out; have := H1.out; omega) H3.out HC.out)
  have R2 : ReadsInt w11 .u8 A2 l2.length l2 := (Kd.reads_of_C (enc := Value.int .u8) (d := (0 : Int)) (h1 := fun _ => rfl) HC11.out)
  have R1 : ReadsInt w11 .u8 A l.length l := (Kd.reads_of_C (enc := Value.int .u8) (d := (0 : Int)) (h1 := fun _ => rfl) (Kd.C_below HR0.out HB11.out))
  have l1 : (l2.take at_.toNat).length = at_.toNat := by rw [List.length_take, HL2.out]; have := H3.out; have := H1.out; omega
  have l3 : (l.take at_.toNat).length = at_.toNat := by rw [List.length_take]; have := H3.out; have := H1.out; omega
  have l5 : (l2.drop (at_ + n).toNat).length = l2.length - (at_ + n).toNat := List.length_drop
  have l6 : (l.drop (at_ + n).toNat).length = l.length - (at_ + n).toNat := List.length_drop
  rw [l1] at S1
  rw [l3] at S2
  rw [l5] at S3
  rw [l6] at S4
  have k1 : ∀ m, (convert 43 9 (.slice A2 at_.toNat c2)).run Try.prog (w11.drewN m) = .ok (.string (strOfNums (l.take at_.toNat))) (w11.drewN m) := fun m => by
    rw [← HT.out]; exact string_of_reads Try.underlying43 Try.underlying5 Try.underlying9 ((S1.2.1 _ R2).drewN m)
  have k2 : ∀ m, (convert 43 9 (.slice A at_.toNat c)).run Try.prog (w11.drewN m) = .ok (.string (strOfNums (l.take at_.toNat))) (w11.drewN m) := fun m =>
    string_of_reads Try.underlying43 Try.underlying5 Try.underlying9 ((S2.2.1 _ R1).drewN m)
  have k3 : ∀ m, (convert 43 9 (.slice A3 (l2.length - (at_ + n).toNat) (c2 - (at_ + n).toNat))).run Try.prog (w11.drewN m) = .ok (.string (strOfNums (l.drop (at_ + n).toNat))) (w11.drewN m) := fun m => by
    rw [← HD.out]; exact string_of_reads Try.underlying43 Try.underlying5 Try.underlying9 ((S3.2.1 _ R2).drewN m)
  have k4 : ∀ m, (convert 43 9 (.slice A4 (l.length - (at_ + n).toNat) (c - (at_ + n).toNat))).run Try.prog (w11.drewN m) = .ok (.string (strOfNums (l.drop (at_ + n).toNat))) (w11.drewN m) := fun m =>
    string_of_reads Try.underlying43 Try.underlying5 Try.underlying9 ((S4.2.1 _ R1).drewN m)
  clear l1 l3 l5 l6
  obtain ⟨S1, -⟩ := S1
  obtain ⟨S2, -⟩ := S2
  obtain ⟨S3, -⟩ := S3
  obtain ⟨S4, -⟩ := S4
  clear R1 R2 hi5 hz5
  go_wp2_with fail
  have E1 := E1.out
  have E2 := E2.out
  have zc := fun (W : World) => word_Zext.calls v (8 * n) u W HZ.out
  have ZC := Aside0.mk zc
  clear zc
  go_quiet ((go_at_call 16; exact Calls.quiet_of ((ZC.out _).mono fun _ _ h => ⟨h.1, h.2.out⟩)))
  go_wp2
  go_ret
  exact ⟨rfl, pw_below_drewN HB11.out nq⟩
set_option maxRecDepth 100000 in
set_option maxHeartbeats 800000 in
theorem walk_err (k : Nat) (A : Option Addr) (c : Nat) (l : List Int) (at_ n v : Int) (w : World) (hr : Kd.C (Kd.int .u8) w A l.length l) (hc : l.length ≤ c) (hl : l.length < 140737488355328)
    (hh : ravelinlaw01_head.f k = some true) (hs : word_Store.f k l at_ n v = some (1, l)) :
    Calls Try.prog 9 #[.slice A l.length c, .agg #[.int .i64 at_, .int .i64 n, .int .u64 v]] w fun e w' => e = .returned (.bool true) ∧ Below w.heap.size w w' := by
  have HR0 := Aside0.mk hr
  have HC := Aside0.mk hc
  have HH := Aside0.mk hh
  have HL := Aside0.mk hl
  have HS := Aside0.mk hs
  clear hr hc hh hl hs
  go_enter Try.func9, Try.ntmps9
  go_wp2_with fail
  refine (ravelinlaw01_head.calls k true _ HH.out).mono ?_
  rintro e w1 ⟨rfl, hb⟩
  obtain ⟨BX0, BL0, HB0⟩ := box_facts hb
  have HB := Aside0.mk HB0
  have BX := Aside0.mk BX0
  have BL := Aside0.mk BL0
  clear hb HB0 BX0 BL0
  go_upto_region 3 with (first | ((with_reducible refine gate_dst (N := 11) rfl ?_); (try (refine gate_guard (by rfl) ?_; dsimp only)); refine Kd.R_lit (Kd.int .u8) _ 5 ?hg (N := 11) ?hd (xs := ([] : List Int)) (inner := []) (ok := fun _ => True) (okp := fun _ => True) ?hr ?hp (fun _ hk => hk) trivial (Below.refl _ _) (Nat.le_refl _) (by simp) ?_; (case hd => rfl); (case hg => rfl); (case hr => first | (go_simp; done) | (go_simp; rfl)); (case hp => exact (Reps.none _ _)); intro v116 w7 ho8 hb hg_ hnew_; clear hg_ hnew_) | ((with_reducible refine gate_builtin (b := .append) (xs := #[.tmp 11, .tmp 12]) rfl ?_); (try (refine gate_guard (by rfl) ?_; dsimp only)); at_builtin; refine Kd.R_append_rows (Kd.int .u8) (w0 := w1) w1.heap.size rfl (.tmp 11) (.tmp 12) 43 5 (.int .u8 0) 1 rfl Try.underlying43 info5 rfl (by decide) (by omega) v116 [] l _ _ _ (fun _ => True) (fun _ => False) rfl rfl ?aO ?aR (fun _ _ h => h) (fun _ h => h.elim) ?aF ?aB ?aS ?aL ?_; (case aO => exact ho8); (case aR => exact Kd.C_below HR0.out (below_step HB.out hb)); (case aF => exact fun _ _ => trivial); (case aB => exact hb); (case aS => exact hb.size); (case aL => have := HL.out; simp only [List.length_nil]; omega); intro v119 w9 ho hb9 hg hat))
  clear hat
  have e0 : ([] ++ l : List Int) = l := rfl
  rw [e0] at ho
  clear e0
  have BX9 := Aside0.mk (blk_below BX.out hb9)
  have HB9 := Aside0.mk (below_then HB.out HB.out.size hb9)
  have HO9 := Aside0.mk ho
  have HD9 := Aside0.mk hb9
  have HBk := HB
  clear ho hb9 hg hb ho8 HB
  have d0 := blk_cell BX9.out 0
  have d1 := blk_cell BX9.out 1
  have d2 := blk_cell BX9.out 2
  simp only [List.getElem?_toArray, List.getElem?_cons_zero, List.getElem?_cons_succ] at d0 d1 d2
  go_wp2_with fail
  clear d0 d1 d2
  refine (word_Store.calls k _ _ l at_ n v 1 l w1 _ HD9.out HO9.out HS.out).mono ?_
  rintro e w10 ⟨rfl, hr10, hb10, hk10⟩
  have BX10 := Aside0.mk (blk_below BX.out hb10)
  have HB10 := Aside0.mk (below_then HBk.out HBk.out.size hb10)
  clear hb10 hk10 HB9 HO9 HD9 BX9 HBk
  obtain ⟨A2, c2, rfl, hc2, hC2⟩ := Kd.R_reads hr10
  have k1 := Kd.C_string (P := Try.prog) (src := 43) (dst := 9) (c := c2) Try.underlying43 Try.underlying5 Try.underlying9 hC2
  have k2 := Kd.C_string (P := Try.prog) (src := 43) (dst := 9) (c := c) Try.underlying43 Try.underlying5 Try.underlying9 (Kd.C_below HR0.out HB10.out)
  clear hC2 hr10 hc2
  go_wp2
  go_ret
  exact ⟨rfl, HB10.out⟩
end Go.Proofs.Ytppbbhpaoflhnaa.StoredWalk
