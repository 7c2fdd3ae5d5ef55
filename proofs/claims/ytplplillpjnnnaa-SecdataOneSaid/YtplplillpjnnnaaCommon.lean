/- The walks of secdata.Bytes and of the law's head: Bytes lays out the 64 bytes of the data in new memory. Conditions: the words are of their kinds. -/
import Derived.Test.YtplplillpjnnnaaDt
import Derived.Test.YtplplillpjnnnaaArgs
namespace Go.Proofs.Ytplplillpjnnnaa.Common
open Go.RowKit Go.Proofs.Ytplplillpjnnnaa.PSecdataActions Go.Proofs.Ytplplillpjnnnaa.Bits Go.Proofs.Ytplplillpjnnnaa.Dat Go.Proofs.YtplplillpjnnnaaW.PrintWords Go.Proofs.YtplplillpjnnnaaW.PrintLast Go.Proofs.YtplplillpjnnnaaW.PrintMore
set_option linter.unusedVariables false
set_option linter.unusedSimpArgs false

theorem info5 : (Try.prog.info? 5).map (fun i => (i.zero, i.size, i.bytes)) = some (some (.int .u8 0), 1, 1) := by kernel_rfl
theorem box_later {w w1 : World} {o : Obj} (hb : Below (w.alloc o).heap.size (w.alloc o) w1) : w1.heap[w.heap.size]? = some o ∧ Below w.heap.size w w1 :=
  ⟨blk_below (blk_new w o) hb, below_step (below_alloc (Below.refl _ _) _) hb⟩
theorem ok64 {l : List Int} (h : l.length = 64) {a n : Int} (h1 : 1 ≤ n) (h2 : n ≤ 8) (h3 : 0 ≤ a) (h4 : a + n ≤ 64) : FactsA.ok l a n := ⟨h1, h2, h3, by rw [h]; exact h4⟩
/-- Store over a row of 64 bytes of the call's own. -/
theorem store_row (wb W : World) (u : Value) (x : List Int) (hl : x.length = 64) (a n : Int) (v : BitVec 64) (h1 : 1 ≤ n) (h2 : n ≤ 8) (h3 : 0 ≤ a) (h4 : a + n ≤ 64)
    (hB : Below wb.heap.size wb W) (ho : Kd.R (Kd.int .u8) 5 W wb.heap.size (fun _ => True) u x) :
    Calls Try.prog 23 #[u, .int .i64 a, .int .i64 n, .int .u64 (U v)] W fun e w' => e = .returned (.int .i64 0) ∧ Kd.R (Kd.int .u8) 5 w' wb.heap.size (fun _ => True) u (st x a.toNat v n.toNat) ∧ Below wb.heap.size wb w' :=
  (word_Store.calls 100 _ u x a n (U v) 0 _ wb W hB ho (FactsA.word_Store_yes 100 (by omega) x (by omega) a n v (ok64 hl h1 h2 h3 h4))).mono fun e w' h => ⟨h.1, Kd.R_mono h.2.1 (fun _ _ => trivial), h.2.2.1⟩
set_option maxRecDepth 100000 in
set_option maxHeartbeats 1600000 in
theorem bytes_calls (d : Dt) (w : World) :
    Calls Try.prog 11 #[.agg #[.int .u32 (U d.nr), .int .u32 (U d.arch), .int .u64 (U d.ip), .int .u64 (U d.a0), .int .u64 (U d.a1), .int .u64 (U d.a2), .int .u64 (U d.a3), .int .u64 (U d.a4), .int .u64 (U d.a5)]] w fun e w' => ∃ A c, e = .returned (.slice A 64 c) ∧ Kd.R (Kd.int .u8) 5 w' w.heap.size (fun _ => True) (.slice A 64 c) (dB d) ∧ Below w.heap.size w w' := by
  go_enter Try.func11, Try.ntmps11
  go_upto_region 2 with (first | ((with_reducible refine gate_dst (N := 5) rfl ?_); refine Kd.R_make (Kd.int .u8) (w0 := w.alloc (.cells #[.int .u32 (U d.nr), .int .u32 (U d.arch), .int .u64 (U d.ip), .int .u64 (U d.a0), .int .u64 (U d.a1), .int .u64 (U d.a2), .int .u64 (U d.a3), .int .u64 (U d.a4), .int .u64 (U d.a5)] 26)) (w.alloc (.cells #[.int .u32 (U d.nr), .int .u32 (U d.arch), .int .u64 (U d.ip), .int .u64 (U d.a0), .int .u64 (U d.a1), .int .u64 (U d.a2), .int .u64 (U d.a3), .int .u64 (U d.a4), .int .u64 (U d.a5)] 26)).heap.size 5 rfl rfl 28 _ _ rfl 64 rfl rfl Try.underlying28 (.int .u8 0) 1 info5 rfl (by decide) (by omega) 0 (ok := fun _ => True) (okp := fun _ => True) rfl (fun _ h => h) trivial (by omega) (by omega) (Below.refl _ _) (Nat.le_refl _) ?_; intro v5 w5 ho5 hb5 hg5 hn5))
  obtain ⟨BX0, HB0⟩ := box_later hb5
  have HB := Aside0.mk HB0
  have BX := Aside0.mk BX0
  have HO := Aside0.mk ho5
  have HD := Aside0.mk hb5
  clear hb5 hg5 hn5 ho5 BX0 HB0
  obtain ⟨wb, hwb⟩ : ∃ wb, wb = w.alloc (.cells #[.int .u32 (U d.nr), .int .u32 (U d.arch), .int .u64 (U d.ip), .int .u64 (U d.a0), .int .u64 (U d.a1), .int .u64 (U d.a2), .int .u64 (U d.a3), .int .u64 (U d.a4), .int .u64 (U d.a5)] 26) := ⟨_, rfl⟩
  have HX := Aside0.mk (show ∀ W, Below wb.heap.size wb W → W.heap[w.heap.size]? = some (.cells #[.int .u32 (U d.nr), .int .u32 (U d.arch), .int .u64 (U d.ip), .int .u64 (U d.a0), .int .u64 (U d.a1), .int .u64 (U d.a2), .int .u64 (U d.a3), .int .u64 (U d.a4), .int .u64 (U d.a5)] 26 (0, 0)) ∧ Below w.heap.size w W from fun W h => by subst hwb; exact box_later h)
  have HW := Aside0.mk (show w.heap.size ≤ wb.heap.size from by rw [hwb, World.size_alloc]; omega)
  rw [← hwb] at HO HD
  clear hwb HB
  have e0 := wrapU_U d.nr
  have e1 := wrapU_U d.arch
  have d0 := blk_cell BX.out 0
  simp only [List.getElem?_toArray, List.getElem?_cons_zero, List.getElem?_cons_succ] at d0
  go_wp2_with fail
  refine (store_row wb w5 v5 _ (by rfl) 0 4 d.nr (by omega) (by omega) (by omega) (by omega) HD.out HO.out).mono ?_
  rintro e w6 ⟨rfl, ho6, hd6⟩
  have d1 := blk_cell (HX.out _ hd6).1 1
  simp only [List.getElem?_toArray, List.getElem?_cons_zero, List.getElem?_cons_succ] at d1
  have HO6 := Aside0.mk ho6
  have HD6 := Aside0.mk hd6
  clear d0 BX ho6 hd6 HO HD
  go_wp2_with fail
  refine (store_row wb w6 v5 _ (by rw [st_length]; rfl) 4 4 d.arch (by omega) (by omega) (by omega) (by omega) HD6.out HO6.out).mono ?_
  rintro e w7 ⟨rfl, ho7, hd7⟩
  have d2 := blk_cell (HX.out _ hd7).1 2
  simp only [List.getElem?_toArray, List.getElem?_cons_zero, List.getElem?_cons_succ] at d2
  have HO7 := Aside0.mk ho7
  have HD7 := Aside0.mk hd7
  clear d1 ho7 hd7 HO6 HD6
  go_wp2_with fail
  refine (store_row wb w7 v5 _ (by rw [st_length, st_length]; rfl) 8 8 d.ip (by omega) (by omega) (by omega) (by omega) HD7.out HO7.out).mono ?_
  rintro e w8 ⟨rfl, ho8, hd8⟩
  have HO8 := Aside0.mk (show Kd.R (Kd.int .u8) 5 w8 wb.heap.size (fun _ => True) v5 (lp d 0) from ho8)
  have HD8 := Aside0.mk hd8
  clear d2 ho8 hd8 HO7 HD7 e0 e1
  go_wp2_with fail
  go_loopw [20] (fun v20 w' => ∃ i : Nat, i ≤ 6 ∧ v20 = .int .i64 i ∧ Aside0 (Kd.R (Kd.int .u8) 5 w' wb.heap.size (fun _ => True) v5 (lp d i)) ∧ Aside0 (Below wb.heap.size wb w')) (fun v20 _ => 6 - (intOf v20).toNat)
  case atStart => exact ⟨0, by omega, rfl, HO8, HD8⟩
  case round =>
    clear HO8 HD8
    obtain ⟨i, hi, rfl, HO, HD⟩ := hrel
    by_cases hlt : i < 6
    · have d3 := (blk_cell (HX.out _ HD.out).1 (3 + i)).trans (Dt.val3 d i hlt)
      go_wp2_with fail
      refine (store_row wb wr v5 (lp d i) (lp_length d i) (16 + 8 * (i : Int)) 8 (d.arg i) (by omega) (by omega) (by omega) (by omega) HD.out HO.out).mono ?_
      rintro e w9 ⟨rfl, ho9, hd9⟩
      have en : (16 + 8 * (i : Int)).toNat = 16 + 8 * i := by omega
      rw [en] at ho9
      have HO9 := Aside0.mk (show Kd.R (Kd.int .u8) 5 w9 wb.heap.size (fun _ => True) v5 (lp d (i + 1)) from ho9)
      have HD9 := Aside0.mk hd9
      clear d3 ho9 hd9 HO HD en
      go_wp2
      exact ⟨⟨i + 1, by omega, by go_num, HO9, HD9⟩, by simp [intOf]; omega⟩
    · have e6 : lp d i = dB d := by rw [show i = 6 by omega, lp_dB]
      rw [e6] at HO
      obtain ⟨A, c, rfl, hc, hC⟩ := Kd.R_reads HO.out
      have HR := Aside0.mk (Kd.R_lower HO.out HW.out)
      have HB := Aside0.mk (HX.out _ HD.out).2
      have hl6 := dB_length d
      rw [hl6] at HR
      have HL := Aside0.mk hl6
      clear hc hC HO HD e6 hl6
      go_wp2
      go_ret
      refine ⟨A, c, ?_, HR.out, HB.out⟩
      rw [← HL.out]
      rfl
set_option maxRecDepth 100000 in
set_option maxHeartbeats 1600000 in
theorem head_calls (w : World) : Calls Try.prog 10 #[] w fun e w' => e = .returned (.bool true) ∧ Below w.heap.size w w' := by
  have HC := Aside0.mk (show secdata_Code.f 100 4 13 = some (327693, 0) from by decide +kernel)
  have HU := Aside0.mk (show U 1#64 = 1 from by decide)
  have HU0 := Aside0.mk (show U 0#64 = 0 from by decide)
  have HBY := Aside0.mk (fun W => bytes_calls ⟨1#64, 0#64, 0#64, 0#64, 0#64, 0#64, 0#64, 0#64, 0#64⟩ W)
  rw [HU.out, HU0.out] at HBY
  go_enter Try.func10, Try.ntmps10
  go_wp2_with fail
  refine (HBY.out _).mono ?_
  rintro e w1 ⟨A, c, rfl, ho, hb⟩
  have HO := Aside0.mk ho
  have HB := Aside0.mk hb
  clear ho hb HBY
  go_wp2_with fail
  refine (secdata_Code.calls 100 4 13 327693 0 _ HC.out).mono ?_
  rintro e w2 ⟨rfl, hb⟩
  have HB2 := Aside0.mk (below_step HB.out hb)
  have HO2 := Aside0.mk (Kd.R_below HO.out hb)
  clear hb HB HO
  obtain ⟨g, cap, cs, hv, _, _, _, _, hh, hc⟩ := Args.own_open HO2.out (by rw [dB_length]; omega)
  injection hv with hA h1 h2
  subst hA
  have d0 := (blk_cell hh 0).trans (hc 0 (by rw [dB_length]; omega))
  have e0 : (dB ⟨1#64, 0#64, 0#64, 0#64, 0#64, 0#64, 0#64, 0#64, 0#64⟩).getD 0 0 = 1 := by decide +kernel
  rw [e0] at d0
  clear hc hh h1 h2 e0
  go_wp2
  go_ret
  exact ⟨rfl, HB2.out⟩
end Go.Proofs.Ytplplillpjnnnaa.Common
