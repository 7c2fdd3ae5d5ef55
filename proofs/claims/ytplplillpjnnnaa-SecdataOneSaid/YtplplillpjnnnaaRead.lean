/- The walk of secdata.Read: the data of 64 bytes, or the error. Conditions: the list is of bytes. -/
import Derived.Test.YtplplillpjnnnaaRefRead
namespace Go.Proofs.Ytplplillpjnnnaa.Read
open Go.RowKit Go.Proofs.Ytplplillpjnnnaa.PSecdataWords Go.Proofs.Ytplplillpjnnnaa.Bits Go.Proofs.Ytplplillpjnnnaa.Dat Go.Proofs.Ytplplillpjnnnaa.Dat2 Go.Proofs.Ytplplillpjnnnaa.RefRead Go.Proofs.Ytplplillpjnnnaa.Common Go.Proofs.YtplplillpjnnnaaW.PrintWords Go.Proofs.YtplplillpjnnnaaW.PrintLast Go.Proofs.YtplplillpjnnnaaW.PrintMore
set_option linter.unusedVariables false
set_option linter.unusedSimpArgs false

theorem word_load_at {w : World} {A : Option Addr} {c : Nat} {l : List Int} (hb : isBytes l) (hl : l.length = 64) (hr : Kd.C (Kd.int .u8) w A l.length l) (hc : l.length ≤ c) {W : World} (hB : Below w.heap.size w W) (a n : Int) (h1 : 1 ≤ n) (h2 : n ≤ 8) (h3 : 0 ≤ a) (h4 : a + n ≤ 64) :
    Calls Try.prog 28 #[.slice A l.length c, .int .i64 a, .int .i64 n] W fun e w' => e = .returned (.tuple #[.int .u64 (U (ld l a.toNat n.toNat)), .int .i64 0]) ∧ Below W.heap.size W w' :=
  (word_Load.calls 100 A c l a n _ 0 W (Kd.C_below hr hB) hc (FactsW.word_Load_yes 100 (by omega) l (by omega) hb a n (ok4 hl h1 h2 h3 h4))).mono fun e w' h => ⟨h.1, h.2.below⟩
set_option maxRecDepth 100000 in
/-- The closure in Read: the captured slice's load. -/
theorem closure {w : World} {A : Option Addr} {c : Nat} {l : List Int} (hb : isBytes l) (hl : l.length = 64) (hr : Kd.C (Kd.int .u8) w A l.length l) (hc : l.length ≤ c) {W : World} (g : Nat) (hB : Below w.heap.size w W) (hg : W.heap[g]? = some (.cells #[.slice A l.length c] 28 (0, 0))) (a n : Int) (h1 : 1 ≤ n) (h2 : n ≤ 8) (h3 : 0 ≤ a) (h4 : a + n ≤ 64) :
    Calls Try.prog 27 #[.int .i64 a, .int .i64 n, .pointer (some ⟨g, 0, none⟩)] W fun e w' => e = .returned (.int .u64 (U (ld l a.toNat n.toNat))) ∧ Below W.heap.size W w' := by
  have LA := Aside0.mk (word_load_at hb hl hr hc hB a n h1 h2 h3 h4)
  have c0 := blk_cell hg 0
  simp only [List.getElem?_toArray, List.getElem?_cons_zero, List.getElem?_cons_succ] at c0
  clear hr hc hb hl hg h1 h2 h3 h4 hB
  go_enter Try.func27, Try.ntmps27
  go_wp2_with fail
  refine LA.out.mono ?_
  rintro e w1 ⟨rfl, hb1⟩
  have HB := Aside0.mk hb1
  clear hb1 LA c0
  go_wp2
  go_ret
  exact ⟨rfl, HB.out⟩
set_option maxRecDepth 100000 in
set_option maxHeartbeats 3200000 in
theorem yes (A : Option Addr) (c : Nat) (l : List Int) (hb : isBytes l) (hl : l.length = 64) (w : World) (hr : Kd.C (Kd.int .u8) w A l.length l) (hc : l.length ≤ c) :
    Calls Try.prog 17 #[.slice A l.length c] w fun e w' => e = .returned (.tuple #[.agg #[.int .u32 (U (dOf l).nr), .int .u32 (U (dOf l).arch), .int .u64 (U (dOf l).ip), .int .u64 (U (dOf l).a0), .int .u64 (U (dOf l).a1), .int .u64 (U (dOf l).a2), .int .u64 (U (dOf l).a3), .int .u64 (U (dOf l).a4), .int .u64 (U (dOf l).a5)], .int .i64 0]) ∧ Below w.heap.size w w' := by
  have LA := Aside0.mk (fun W g (hB : Below w.heap.size w W) hg a n h1 h2 h3 h4 => closure hb hl hr hc (W := W) g hB hg a n h1 h2 h3 h4)
  have S0 := Aside0.mk (wrap32 (ld_small hb 0))
  have S1 := Aside0.mk (wrap32 (ld_small hb 4))
  have hmf : ∀ (fn : Fn) (first cap : Array Value) (w : World), (Instr.makeFunc fn first cap).run Try.prog w = .ok (.func fn first cap) w := fun _ _ _ _ => rfl
  have hq : ((l.length : Nat) : Int) = 64 := by omega
  clear hr hc hb hl
  obtain ⟨d, hd⟩ : ∃ d, dOf l = d := ⟨_, rfl⟩
  rw [hd]
  have HDD := Aside0.mk hd
  clear hd
  obtain ⟨wb, hwb⟩ : ∃ wb, wb = ((w.alloc (.cells #[.slice A l.length c] 28)).alloc (.cells #[.int .u32 0, .int .u32 0, .int .u64 0, .int .u64 0, .int .u64 0, .int .u64 0, .int .u64 0, .int .u64 0, .int .u64 0] 26)).alloc (.cells #[.int .u32 0, .int .u32 0, .int .u64 0, .int .u64 0, .int .u64 0, .int .u64 0, .int .u64 0, .int .u64 0, .int .u64 0] 26) := ⟨_, rfl⟩
  have HBX := Aside0.mk (show wb.heap[w.heap.size]? = some (.cells #[.slice A l.length c] 28 (0, 0)) from by rw [hwb]; exact blk_alloc (blk_alloc (blk_new w _) _) _)
  have HG := Aside0.mk (show wb.heap[w.heap.size + 1]? = some (.cells #[.int .u32 0, .int .u32 0, .int .u64 0, .int .u64 0, .int .u64 0, .int .u64 0, .int .u64 0, .int .u64 0, .int .u64 0] 26 (0, 0)) from by
    rw [hwb]
    have := blk_new (w.alloc (.cells #[.slice A l.length c] 28)) (.cells #[.int .u32 0, .int .u32 0, .int .u64 0, .int .u64 0, .int .u64 0, .int .u64 0, .int .u64 0, .int .u64 0, .int .u64 0] 26)
    rw [World.size_alloc] at this
    exact blk_alloc this _)
  have HZ := Aside0.mk (show wb.heap[w.heap.size + 1 + 1]? = some (.cells #[.int .u32 0, .int .u32 0, .int .u64 0, .int .u64 0, .int .u64 0, .int .u64 0, .int .u64 0, .int .u64 0, .int .u64 0] 26 (0, 0)) from by
    rw [hwb]
    have := blk_new ((w.alloc (.cells #[.slice A l.length c] 28)).alloc (.cells #[.int .u32 0, .int .u32 0, .int .u64 0, .int .u64 0, .int .u64 0, .int .u64 0, .int .u64 0, .int .u64 0, .int .u64 0] 26)) (.cells #[.int .u32 0, .int .u32 0, .int .u64 0, .int .u64 0, .int .u64 0, .int .u64 0, .int .u64 0, .int .u64 0, .int .u64 0] 26)
    rw [World.size_alloc, World.size_alloc] at this
    exact this)
  have HB := Aside0.mk (show Below w.heap.size w wb from by rw [hwb]; exact below_alloc (below_alloc (below_alloc (Below.refl _ _) _) _) _)
  have HWB := Aside0.mk hwb
  clear hwb
  have g2 : w.heap.size ≤ w.heap.size + 1 + 1 := by omega
  have g1 : w.heap.size ≤ w.heap.size + 1 := by omega
  have n1 : w.heap.size + 1 ≠ w.heap.size + 1 + 1 := by omega
  have n0 : w.heap.size ≠ w.heap.size + 1 + 1 := by omega
  have NN := Aside0.mk (And.intro g2 (And.intro g1 (And.intro n1 n0)))
  clear g2 g1 n1 n0
  go_enter Try.func17, Try.ntmps17
  go_wp2_with fail
  rw [← HWB.out]
  clear HWB
  refine (LA.out _ w.heap.size HB.out HBX.out 0 4 (by omega) (by omega) (by omega) (by omega)).mono ?_
  rintro e w3 ⟨rfl, hb3⟩
  have HB3 := Aside0.mk (below_step HB.out hb3)
  have HX3 := Aside0.mk (blk_below HBX.out hb3)
  have HG3 := Aside0.mk (blk_below HG.out hb3)
  have HZ3 := Aside0.mk (blk_below HZ.out hb3)
  clear hb3 HB HG HZ HBX
  have s0 := S0.out
  have s1 := S1.out
  have t0 : (0 : Int).toNat = 0 := rfl
  have t4 : (4 : Int).toNat = 4 := rfl
  have t8 : (8 : Int).toNat = 8 := rfl
  have m0 : U (ld l 0 4) % 4294967296 = U (ld l 0 4) := by
    have := S0.out
    simp only [IntKind.wrap, IntKind.bits, IntKind.signed, Bool.false_and, Bool.false_eq_true, if_false] at this
    exact this
  have m1 : U (ld l 4 4) % 4294967296 = U (ld l 4 4) := by
    have := S1.out
    simp only [IntKind.wrap, IntKind.bits, IntKind.signed, Bool.false_and, Bool.false_eq_true, if_false] at this
    exact this
  go_wp2_with fail
  refine (LA.out _ w.heap.size HB3.out HX3.out 4 4 (by omega) (by omega) (by omega) (by omega)).mono ?_
  rintro e w4 ⟨rfl, hb4⟩
  have HB4 := Aside0.mk (below_step HB3.out hb4)
  have HX4 := Aside0.mk (blk_below HX3.out hb4)
  have HG4 := Aside0.mk (blk_below HG3.out hb4)
  have HZ4 := Aside0.mk (blk_below HZ3.out hb4)
  clear hb4 HB3 HG3 HZ3 HX3
  go_wp2_with fail
  refine (LA.out _ w.heap.size HB4.out HX4.out 8 8 (by omega) (by omega) (by omega) (by omega)).mono ?_
  rintro e w5 ⟨rfl, hb5⟩
  have HB5 := Aside0.mk (below_step HB4.out hb5)
  have HX5 := Aside0.mk (blk_below HX4.out hb5)
  have HG5 := Aside0.mk (blk_below HG4.out hb5)
  have HZ5 := Aside0.mk (blk_below HZ4.out hb5)
  clear hb5 HB4 HG4 HZ4 HX4
  have z0 := blk_cell HZ5.out 0
  have z1 := blk_cell HZ5.out 1
  have z2 := blk_cell HZ5.out 2
  simp only [List.getElem?_toArray, List.getElem?_cons_zero, List.getElem?_cons_succ] at z0 z1 z2
  have f0 := blk_frozen HZ5.out 0
  have f1 := blk_frozen HZ5.out 1
  have f2 := blk_frozen HZ5.out 2
  go_wp2_with fail
  have HB6 := Aside0.mk (below_set (j := 2) (v := .int .u64 (U (ld l 8 8))) (below_set (j := 1) (v := .int .u32 (U (ld l 4 4))) (below_set (j := 0) (v := .int .u32 (U (ld l 0 4))) HB5.out NN.out.1) NN.out.1) NN.out.1)
  have HG6 := Aside0.mk (blk_far (blk_far (blk_far HG5.out (p := ⟨w.heap.size + 1 + 1, 0, none⟩) NN.out.2.2.1 (.int .u32 (U (ld l 0 4)))) (p := ⟨w.heap.size + 1 + 1, 1, none⟩) NN.out.2.2.1 (.int .u32 (U (ld l 4 4)))) (p := ⟨w.heap.size + 1 + 1, 2, none⟩) NN.out.2.2.1 (.int .u64 (U (ld l 8 8))))
  have HX6 := Aside0.mk (blk_far (blk_far (blk_far HX5.out (p := ⟨w.heap.size + 1 + 1, 0, none⟩) NN.out.2.2.2 (.int .u32 (U (ld l 0 4)))) (p := ⟨w.heap.size + 1 + 1, 1, none⟩) NN.out.2.2.2 (.int .u32 (U (ld l 4 4)))) (p := ⟨w.heap.size + 1 + 1, 2, none⟩) NN.out.2.2.2 (.int .u64 (U (ld l 8 8))))
  have HZ6 := Aside0.mk (blk_put (cs' := cells (pd l 0)) (blk_put (blk_put HZ5.out 0 (.int .u32 (U (ld l 0 4))) rfl) 1 (.int .u32 (U (ld l 4 4))) rfl) 2 (.int .u64 (U (ld l 8 8))) rfl)
  clear HB5 HG5 HZ5 HX5 s0 s1 m0 m1 z0 z1 z2 f0 f1 f2
  go_loopw [23] (fun v23 w' => ∃ i : Nat, i ≤ 6 ∧ v23 = .int .i64 i ∧ Aside0 (w'.heap[w.heap.size]? = some (.cells #[.slice A l.length c] 28 (0, 0))) ∧ Aside0 (w'.heap[w.heap.size + 1]? = some (.cells #[.int .u32 0, .int .u32 0, .int .u64 0, .int .u64 0, .int .u64 0, .int .u64 0, .int .u64 0, .int .u64 0, .int .u64 0] 26 (0, 0))) ∧ Aside0 (w'.heap[w.heap.size + 1 + 1]? = some (.cells (cells (pd l i)) 26 (0, 0))) ∧ Aside0 (Below w.heap.size w w')) (fun v23 _ => 6 - (intOf v23).toNat)
  case atStart => exact ⟨0, by omega, rfl, HX6, HG6, HZ6, HB6⟩
  case round =>
    clear HG6 HZ6 HB6 HX6
    obtain ⟨i, hi, rfl, HX, HG, HZ, HB⟩ := hrel
    by_cases hlt : i < 6
    · go_wp2_with fail
      refine (LA.out _ w.heap.size HB.out HX.out (16 + 8 * (i : Int)) 8 (by omega) (by omega) (by omega) (by omega)).mono ?_
      rintro e w7 ⟨rfl, hb7⟩
      have en : (16 + 8 * (i : Int)).toNat = 16 + 8 * i := by omega
      have HB7 := Aside0.mk (below_step HB.out hb7)
      have HX7 := Aside0.mk (blk_below HX.out hb7)
      have HG7 := Aside0.mk (blk_below HG.out hb7)
      have HZ7 := Aside0.mk (blk_below HZ.out hb7)
      clear hb7 HB HG HZ HX
      have z3 := (blk_cell HZ7.out (3 + i)).trans (cells_arg (pd l i) i hlt)
      have f3 := blk_frozen HZ7.out (3 + i)
      have HB8 := Aside0.mk (below_set (j := 3 + i) (v := .int .u64 (U (ld l (16 + 8 * i) 8))) HB7.out NN.out.1)
      have HG8 := Aside0.mk (blk_far HG7.out (p := ⟨w.heap.size + 1 + 1, 3 + i, none⟩) NN.out.2.2.1 (.int .u64 (U (ld l (16 + 8 * i) 8))))
      have HX8 := Aside0.mk (blk_far HX7.out (p := ⟨w.heap.size + 1 + 1, 3 + i, none⟩) NN.out.2.2.2 (.int .u64 (U (ld l (16 + 8 * i) 8))))
      have HZ8 := Aside0.mk (blk_put (cs' := cells (pd l (i + 1))) HZ7.out (3 + i) (.int .u64 (U (ld l (16 + 8 * i) 8))) (pd_step l i hlt))
      clear HB7 HG7 HZ7 HX7
      go_wp2
      exact ⟨⟨i + 1, by omega, by go_num, HX8, HG8, HZ8, HB8⟩, by simp [intOf]; omega⟩
    · obtain rfl : i = 6 := by omega
      rw [pd_last, HDD.out] at HZ
      have hz := blk_cells HZ.out
      have z0 := blk_cell hz 0
      have z1 := blk_cell hz 1
      have z2 := blk_cell hz 2
      have z3 := blk_cell hz 3
      have z4 := blk_cell hz 4
      have z5 := blk_cell hz 5
      have z6 := blk_cell hz 6
      have z7 := blk_cell hz 7
      have z8 := blk_cell hz 8
      simp only [List.getElem?_toArray, List.getElem?_cons_zero, List.getElem?_cons_succ] at z0 z1 z2 z3 z4 z5 z6 z7 z8
      have r0 := blk_cell HG.out 0
      have r1 := blk_cell HG.out 1
      have r2 := blk_cell HG.out 2
      have r3 := blk_cell HG.out 3
      have r4 := blk_cell HG.out 4
      have r5 := blk_cell HG.out 5
      have r6 := blk_cell HG.out 6
      have r7 := blk_cell HG.out 7
      have r8 := blk_cell HG.out 8
      simp only [List.getElem?_toArray, List.getElem?_cons_zero, List.getElem?_cons_succ] at r0 r1 r2 r3 r4 r5 r6 r7 r8
      have q0 := blk_frozen HG.out 0
      have q1 := blk_frozen HG.out 1
      have q2 := blk_frozen HG.out 2
      have q3 := blk_frozen HG.out 3
      have q4 := blk_frozen HG.out 4
      have q5 := blk_frozen HG.out 5
      have q6 := blk_frozen HG.out 6
      have q7 := blk_frozen HG.out 7
      have q8 := blk_frozen HG.out 8
      have HV := Aside0.mk (below_set (j := 8) (v := .int .u64 (U d.a5)) (below_set (j := 7) (v := .int .u64 (U d.a4)) (below_set (j := 6) (v := .int .u64 (U d.a3)) (below_set (j := 5) (v := .int .u64 (U d.a2)) (below_set (j := 4) (v := .int .u64 (U d.a1)) (below_set (j := 3) (v := .int .u64 (U d.a0)) (below_set (j := 2) (v := .int .u64 (U d.ip)) (below_set (j := 1) (v := .int .u32 (U d.arch)) (below_set (j := 0) (v := .int .u32 (U d.nr)) HB.out NN.out.2.1) NN.out.2.1) NN.out.2.1) NN.out.2.1) NN.out.2.1) NN.out.2.1) NN.out.2.1) NN.out.2.1) NN.out.2.1)
      have HP := Aside0.mk (blk_put (cs' := #[.int .u32 (U d.nr), .int .u32 (U d.arch), .int .u64 (U d.ip), .int .u64 (U d.a0), .int .u64 (U d.a1), .int .u64 (U d.a2), .int .u64 (U d.a3), .int .u64 (U d.a4), .int .u64 (U d.a5)]) (blk_put (cs' := #[.int .u32 (U d.nr), .int .u32 (U d.arch), .int .u64 (U d.ip), .int .u64 (U d.a0), .int .u64 (U d.a1), .int .u64 (U d.a2), .int .u64 (U d.a3), .int .u64 (U d.a4), .int .u64 0]) (blk_put (cs' := #[.int .u32 (U d.nr), .int .u32 (U d.arch), .int .u64 (U d.ip), .int .u64 (U d.a0), .int .u64 (U d.a1), .int .u64 (U d.a2), .int .u64 (U d.a3), .int .u64 0, .int .u64 0]) (blk_put (cs' := #[.int .u32 (U d.nr), .int .u32 (U d.arch), .int .u64 (U d.ip), .int .u64 (U d.a0), .int .u64 (U d.a1), .int .u64 (U d.a2), .int .u64 0, .int .u64 0, .int .u64 0]) (blk_put (cs' := #[.int .u32 (U d.nr), .int .u32 (U d.arch), .int .u64 (U d.ip), .int .u64 (U d.a0), .int .u64 (U d.a1), .int .u64 0, .int .u64 0, .int .u64 0, .int .u64 0]) (blk_put (cs' := #[.int .u32 (U d.nr), .int .u32 (U d.arch), .int .u64 (U d.ip), .int .u64 (U d.a0), .int .u64 0, .int .u64 0, .int .u64 0, .int .u64 0, .int .u64 0]) (blk_put (cs' := #[.int .u32 (U d.nr), .int .u32 (U d.arch), .int .u64 (U d.ip), .int .u64 0, .int .u64 0, .int .u64 0, .int .u64 0, .int .u64 0, .int .u64 0]) (blk_put (cs' := #[.int .u32 (U d.nr), .int .u32 (U d.arch), .int .u64 0, .int .u64 0, .int .u64 0, .int .u64 0, .int .u64 0, .int .u64 0, .int .u64 0]) (blk_put (cs' := #[.int .u32 (U d.nr), .int .u32 0, .int .u64 0, .int .u64 0, .int .u64 0, .int .u64 0, .int .u64 0, .int .u64 0, .int .u64 0]) HG.out 0 (.int .u32 (U d.nr)) rfl) 1 (.int .u32 (U d.arch)) rfl) 2 (.int .u64 (U d.ip)) rfl) 3 (.int .u64 (U d.a0)) rfl) 4 (.int .u64 (U d.a1)) rfl) 5 (.int .u64 (U d.a2)) rfl) 6 (.int .u64 (U d.a3)) rfl) 7 (.int .u64 (U d.a4)) rfl) 8 (.int .u64 (U d.a5)) rfl)
      clear hz
      go_wp2
      refine bodyPost_ret (results_ct rfl _ _ (w.heap.size + 1) 26 #[.int .u32 (U d.nr), .int .u32 (U d.arch), .int .u64 (U d.ip), .int .u64 (U d.a0), .int .u64 (U d.a1), .int .u64 (U d.a2), .int .u64 (U d.a3), .int .u64 (U d.a4), .int .u64 (U d.a5)] (0, 0) _ rfl HP.out Try.underlying26 rfl (by kernel_rfl)) rfl ?_
      exact ⟨rfl, HV.out⟩
set_option maxRecDepth 100000 in
set_option maxHeartbeats 3200000 in
theorem no (A : Option Addr) (c : Nat) (l : List Int) (hl : l.length ≠ 64) (hl2 : l.length < 1000000000000000) (w : World) :
    Calls Try.prog 17 #[.slice A l.length c] w fun e w' => e = .returned (.tuple #[.agg #[.int .u32 0, .int .u32 0, .int .u64 0, .int .u64 0, .int .u64 0, .int .u64 0, .int .u64 0, .int .u64 0, .int .u64 0], .int .i64 21]) ∧ Below w.heap.size w w' := by
  have hq : ((l.length : Nat) : Int) ≠ 64 := by omega
  have hq2 : (((l.length : Nat) : Int) == 64) = false := by simpa using hq
  have hq3 : (((l.length : Nat) : Int) != 64) = true := by simpa using hq
  have hmf : ∀ (fn : Fn) (first cap : Array Value) (w : World), (Instr.makeFunc fn first cap).run Try.prog w = .ok (.func fn first cap) w := fun _ _ _ _ => rfl
  clear hl hl2
  go_enter Try.func17, Try.ntmps17
  go_wp2
  have hg1 := blk_new (w.alloc (.cells #[.slice A l.length c] 28)) (.cells #[.int .u32 0, .int .u32 0, .int .u64 0, .int .u64 0, .int .u64 0, .int .u64 0, .int .u64 0, .int .u64 0, .int .u64 0] 26)
  rw [World.size_alloc] at hg1
  refine bodyPost_ret (results_ct rfl _ _ (w.heap.size + 1) 26 #[.int .u32 0, .int .u32 0, .int .u64 0, .int .u64 0, .int .u64 0, .int .u64 0, .int .u64 0, .int .u64 0, .int .u64 0] (0, 0) _ rfl (blk_alloc hg1 _) Try.underlying26 rfl (by kernel_rfl)) rfl ?_
  exact ⟨rfl, below_alloc (below_alloc (below_alloc (Below.refl _ _) _) _) _⟩
end Go.Proofs.Ytplplillpjnnnaa.Read
