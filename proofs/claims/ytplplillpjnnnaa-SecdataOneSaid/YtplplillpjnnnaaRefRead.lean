/- The walk of the document's Read: the data of 64 bytes, or the error. Conditions: the list is of bytes. -/
import Derived.Test.YtplplillpjnnnaaDat2
namespace Go.Proofs.Ytplplillpjnnnaa.RefRead
open Go.RowKit Go.Proofs.Ytplplillpjnnnaa.PSecdataWords Go.Proofs.Ytplplillpjnnnaa.Bits Go.Proofs.Ytplplillpjnnnaa.Dat Go.Proofs.Ytplplillpjnnnaa.Dat2 Go.Proofs.Ytplplillpjnnnaa.Common Go.Proofs.YtplplillpjnnnaaW.PrintWords Go.Proofs.YtplplillpjnnnaaW.PrintLast Go.Proofs.YtplplillpjnnnaaW.PrintMore
set_option linter.unusedVariables false
set_option linter.unusedSimpArgs false

/-- The data read so far: so many arguments are there. -/
def pd (l : List Int) (i : Nat) : Dt := ⟨ld l 0 4, ld l 4 4, ld l 8 8, if 0 < i then ld l 16 8 else 0#64, if 1 < i then ld l 24 8 else 0#64, if 2 < i then ld l 32 8 else 0#64, if 3 < i then ld l 40 8 else 0#64, if 4 < i then ld l 48 8 else 0#64, if 5 < i then ld l 56 8 else 0#64⟩
theorem pd_last (l : List Int) : pd l 6 = dOf l := rfl
def cells (d : Dt) : Array Value := #[.int .u32 (U d.nr), .int .u32 (U d.arch), .int .u64 (U d.ip), .int .u64 (U d.a0), .int .u64 (U d.a1), .int .u64 (U d.a2), .int .u64 (U d.a3), .int .u64 (U d.a4), .int .u64 (U d.a5)]
theorem cells_arg (d : Dt) (i : Nat) (h : i < 6) : (cells d)[3 + i]? = some (.int .u64 (U (d.arg i))) := Dt.val3 d i h
theorem pd_step (l : List Int) (i : Nat) (h : i < 6) : (cells (pd l i)).setIfInBounds (3 + i) (.int .u64 (U (ld l (16 + 8 * i) 8))) = cells (pd l (i + 1)) := by
  rcases i with _ | _ | _ | _ | _ | _ | i <;> first | rfl | omega
theorem blk_cells {w : World} {g : Nat} {d : Dt} (h : w.heap[g]? = some (.cells (cells d) 26 (0, 0))) : w.heap[g]? = some (.cells #[.int .u32 (U d.nr), .int .u32 (U d.arch), .int .u64 (U d.ip), .int .u64 (U d.a0), .int .u64 (U d.a1), .int .u64 (U d.a2), .int .u64 (U d.a3), .int .u64 (U d.a4), .int .u64 (U d.a5)] 26 (0, 0)) := h
theorem ok4 {l : List Int} (hl : l.length = 64) {a n : Int} (h1 : 1 ≤ n) (h2 : n ≤ 8) (h3 : 0 ≤ a) (h4 : a + n ≤ 64) : FactsW.ok l a n := ⟨h1, h2, h3, by rw [hl]; exact h4⟩
/-- The document's Load in a world that comes later. -/
theorem load_at {w : World} {A : Option Addr} {c : Nat} {l : List Int} (hb : isBytes l) (hl : l.length = 64) (hr : Kd.C (Kd.int .u8) w A l.length l) (hc : l.length ≤ c) {W : World} (hB : Below w.heap.size w W) (a n : Int) (h1 : 1 ≤ n) (h2 : n ≤ 8) (h3 : 0 ≤ a) (h4 : a + n ≤ 64) :
    Calls Try.prog 29 #[.slice A l.length c, .int .i64 a, .int .i64 n] W fun e w' => e = .returned (.tuple #[.int .u64 (U (ld l a.toNat n.toNat)), .int .i64 0]) ∧ Below W.heap.size W w' :=
  (ravelinref01_Load.calls 100 A c l a n _ 0 W (Kd.C_below hr hB) hc (FactsW.ref_Load_yes 100 (by omega) l (by omega) hb a n (ok4 hl h1 h2 h3 h4))).mono fun e w' h => ⟨h.1, h.2.below⟩
set_option maxRecDepth 100000 in
set_option maxHeartbeats 3200000 in
theorem yes (A : Option Addr) (c : Nat) (l : List Int) (hb : isBytes l) (hl : l.length = 64) (w : World) (hr : Kd.C (Kd.int .u8) w A l.length l) (hc : l.length ≤ c) :
    Calls Try.prog 18 #[.slice A l.length c] w fun e w' => e = .returned (.tuple #[.agg #[.int .u32 (U (dOf l).nr), .int .u32 (U (dOf l).arch), .int .u64 (U (dOf l).ip), .int .u64 (U (dOf l).a0), .int .u64 (U (dOf l).a1), .int .u64 (U (dOf l).a2), .int .u64 (U (dOf l).a3), .int .u64 (U (dOf l).a4), .int .u64 (U (dOf l).a5)], .int .i64 0]) ∧ Below w.heap.size w w' := by
  have LA := Aside0.mk (fun W (hB : Below w.heap.size w W) a n h1 h2 h3 h4 => load_at hb hl hr hc hB a n h1 h2 h3 h4)
  have HL := Aside0.mk hl
  have S0 := Aside0.mk (wrap32 (ld_small hb 0))
  have S1 := Aside0.mk (wrap32 (ld_small hb 4))
  have hq : ((l.length : Nat) : Int) = 64 := by omega
  have HB := Aside0.mk (below_alloc (below_alloc (Below.refl w.heap.size w) (.cells #[.int .u32 0, .int .u32 0, .int .u64 0, .int .u64 0, .int .u64 0, .int .u64 0, .int .u64 0, .int .u64 0, .int .u64 0] 26)) (.cells #[.int .u32 0, .int .u32 0, .int .u64 0, .int .u64 0, .int .u64 0, .int .u64 0, .int .u64 0, .int .u64 0, .int .u64 0] 26))
  have HG := Aside0.mk (blk_alloc (blk_new w (.cells #[.int .u32 0, .int .u32 0, .int .u64 0, .int .u64 0, .int .u64 0, .int .u64 0, .int .u64 0, .int .u64 0, .int .u64 0] 26)) (.cells #[.int .u32 0, .int .u32 0, .int .u64 0, .int .u64 0, .int .u64 0, .int .u64 0, .int .u64 0, .int .u64 0, .int .u64 0] 26))
  have HZ := Aside0.mk (show ((w.alloc (.cells #[.int .u32 0, .int .u32 0, .int .u64 0, .int .u64 0, .int .u64 0, .int .u64 0, .int .u64 0, .int .u64 0, .int .u64 0] 26)).alloc (.cells #[.int .u32 0, .int .u32 0, .int .u64 0, .int .u64 0, .int .u64 0, .int .u64 0, .int .u64 0, .int .u64 0, .int .u64 0] 26)).heap[w.heap.size + 1]? = some (.cells #[.int .u32 0, .int .u32 0, .int .u64 0, .int .u64 0, .int .u64 0, .int .u64 0, .int .u64 0, .int .u64 0, .int .u64 0] 26 (0, 0)) from by
    have := blk_new (w.alloc (.cells #[.int .u32 0, .int .u32 0, .int .u64 0, .int .u64 0, .int .u64 0, .int .u64 0, .int .u64 0, .int .u64 0, .int .u64 0] 26)) (.cells #[.int .u32 0, .int .u32 0, .int .u64 0, .int .u64 0, .int .u64 0, .int .u64 0, .int .u64 0, .int .u64 0, .int .u64 0] 26)
    rwa [World.size_alloc] at this)
  clear hr hc hb hl
  obtain ⟨d, hd⟩ : ∃ d, dOf l = d := ⟨_, rfl⟩
  rw [hd]
  have HDD := Aside0.mk hd
  clear hd
  go_enter Try.func18, Try.ntmps18
  go_wp2_with fail
  refine (LA.out _ HB.out 0 4 (by omega) (by omega) (by omega) (by omega)).mono ?_
  rintro e w3 ⟨rfl, hb3⟩
  have HB3 := Aside0.mk (below_step HB.out hb3)
  have HG3 := Aside0.mk (blk_below HG.out hb3)
  have HZ3 := Aside0.mk (blk_below HZ.out hb3)
  clear hb3 HB HG HZ
  go_wp2_with fail
  refine (LA.out _ HB3.out 4 4 (by omega) (by omega) (by omega) (by omega)).mono ?_
  rintro e w4 ⟨rfl, hb4⟩
  have HB4 := Aside0.mk (below_step HB3.out hb4)
  have HG4 := Aside0.mk (blk_below HG3.out hb4)
  have HZ4 := Aside0.mk (blk_below HZ3.out hb4)
  clear hb4 HB3 HG3 HZ3
  go_wp2_with fail
  refine (LA.out _ HB4.out 8 8 (by omega) (by omega) (by omega) (by omega)).mono ?_
  rintro e w5 ⟨rfl, hb5⟩
  have HB5 := Aside0.mk (below_step HB4.out hb5)
  have HG5 := Aside0.mk (blk_below HG4.out hb5)
  have HZ5 := Aside0.mk (blk_below HZ4.out hb5)
  clear hb5 HB4 HG4 HZ4
  have s0 := S0.out
  have s1 := S1.out
  have t0 : (0 : Int).toNat = 0 := rfl
  have t4 : (4 : Int).toNat = 4 := rfl
  have t8 : (8 : Int).toNat = 8 := rfl
  have z0 := blk_cell HZ5.out 0
  have z1 := blk_cell HZ5.out 1
  have z2 := blk_cell HZ5.out 2
  simp only [List.getElem?_toArray, List.getElem?_cons_zero, List.getElem?_cons_succ] at z0 z1 z2
  have f0 := blk_frozen HZ5.out 0
  have f1 := blk_frozen HZ5.out 1
  have f2 := blk_frozen HZ5.out 2
  go_wp2_with fail
  have HB6 := Aside0.mk (below_set (j := 2) (v := .int .u64 (U (ld l 8 8))) (below_set (j := 1) (v := .int .u32 (U (ld l 4 4))) (below_set (j := 0) (v := .int .u32 (U (ld l 0 4))) HB5.out (Nat.le_succ _)) (Nat.le_succ _)) (Nat.le_succ _))
  have HG6 := Aside0.mk (blk_far (blk_far (blk_far HG5.out (p := ⟨w.heap.size + 1, 0, none⟩) (Nat.ne_of_lt (Nat.lt_succ_self _)) (.int .u32 (U (ld l 0 4)))) (p := ⟨w.heap.size + 1, 1, none⟩) (Nat.ne_of_lt (Nat.lt_succ_self _)) (.int .u32 (U (ld l 4 4)))) (p := ⟨w.heap.size + 1, 2, none⟩) (Nat.ne_of_lt (Nat.lt_succ_self _)) (.int .u64 (U (ld l 8 8))))
  have HZ6 := Aside0.mk (blk_put (cs' := cells (pd l 0)) (blk_put (blk_put HZ5.out 0 (.int .u32 (U (ld l 0 4))) rfl) 1 (.int .u32 (U (ld l 4 4))) rfl) 2 (.int .u64 (U (ld l 8 8))) rfl)
  clear HB5 HG5 HZ5 s0 s1 z0 z1 z2 f0 f1 f2
  go_loopw [11] (fun v11 w' => ∃ i : Nat, i ≤ 6 ∧ v11 = .int .i64 i ∧ Aside0 (w'.heap[w.heap.size]? = some (.cells #[.int .u32 0, .int .u32 0, .int .u64 0, .int .u64 0, .int .u64 0, .int .u64 0, .int .u64 0, .int .u64 0, .int .u64 0] 26 (0, 0))) ∧ Aside0 (w'.heap[w.heap.size + 1]? = some (.cells (cells (pd l i)) 26 (0, 0))) ∧ Aside0 (Below w.heap.size w w')) (fun v11 _ => 6 - (intOf v11).toNat)
  case atStart => exact ⟨0, by omega, rfl, HG6, HZ6, HB6⟩
  case round =>
    clear HG6 HZ6 HB6
    obtain ⟨i, hi, rfl, HG, HZ, HB⟩ := hrel
    by_cases hlt : i < 6
    · go_wp2_with fail
      refine (LA.out _ HB.out (16 + 8 * (i : Int)) 8 (by omega) (by omega) (by omega) (by omega)).mono ?_
      rintro e w7 ⟨rfl, hb7⟩
      have en : (16 + 8 * (i : Int)).toNat = 16 + 8 * i := by omega
      have HB7 := Aside0.mk (below_step HB.out hb7)
      have HG7 := Aside0.mk (blk_below HG.out hb7)
      have HZ7 := Aside0.mk (blk_below HZ.out hb7)
      clear hb7 HB HG HZ
      have z3 := (blk_cell HZ7.out (3 + i)).trans (cells_arg (pd l i) i hlt)
      have f3 := blk_frozen HZ7.out (3 + i)
      have HB8 := Aside0.mk (below_set (j := 3 + i) (v := .int .u64 (U (ld l (16 + 8 * i) 8))) HB7.out (Nat.le_succ _))
      have HG8 := Aside0.mk (blk_far HG7.out (p := ⟨w.heap.size + 1, 3 + i, none⟩) (Nat.ne_of_lt (Nat.lt_succ_self _)) (.int .u64 (U (ld l (16 + 8 * i) 8))))
      have HZ8 := Aside0.mk (blk_put (cs' := cells (pd l (i + 1))) HZ7.out (3 + i) (.int .u64 (U (ld l (16 + 8 * i) 8))) (pd_step l i hlt))
      clear HB7 HG7 HZ7
      go_wp2
      exact ⟨⟨i + 1, by omega, by go_num, HG8, HZ8, HB8⟩, by simp [intOf]; omega⟩
    · obtain rfl : i = 6 := by omega
      rw [pd_last, HDD.out] at HZ
      have hz := blk_cells HZ.out
      have z0 := blk_cell hz 0
      have z1 := blk_cell hz 1
      have z2 := blk_cell hz 2
      have z3 := blk_cell hz 3
      have z4 := blk_cell hz 4
      have z5 := blk_cell hz 5
      have z6 := blk_cell hz 6
      have z7 := blk_cell hz 7
      have z8 := blk_cell hz 8
      simp only [List.getElem?_toArray, List.getElem?_cons_zero, List.getElem?_cons_succ] at z0 z1 z2 z3 z4 z5 z6 z7 z8
      have r0 := blk_cell HG.out 0
      have r1 := blk_cell HG.out 1
      have r2 := blk_cell HG.out 2
      have r3 := blk_cell HG.out 3
      have r4 := blk_cell HG.out 4
      have r5 := blk_cell HG.out 5
      have r6 := blk_cell HG.out 6
      have r7 := blk_cell HG.out 7
      have r8 := blk_cell HG.out 8
      simp only [List.getElem?_toArray, List.getElem?_cons_zero, List.getElem?_cons_succ] at r0 r1 r2 r3 r4 r5 r6 r7 r8
      have q0 := blk_frozen HG.out 0
      have q1 := blk_frozen HG.out 1
      have q2 := blk_frozen HG.out 2
      have q3 := blk_frozen HG.out 3
      have q4 := blk_frozen HG.out 4
      have q5 := blk_frozen HG.out 5
      have q6 := blk_frozen HG.out 6
      have q7 := blk_frozen HG.out 7
      have q8 := blk_frozen HG.out 8
      have HV := Aside0.mk (below_set (j := 8) (v := .int .u64 (U d.a5)) (below_set (j := 7) (v := .int .u64 (U d.a4)) (below_set (j := 6) (v := .int .u64 (U d.a3)) (below_set (j := 5) (v := .int .u64 (U d.a2)) (below_set (j := 4) (v := .int .u64 (U d.a1)) (below_set (j := 3) (v := .int .u64 (U d.a0)) (below_set (j := 2) (v := .int .u64 (U d.ip)) (below_set (j := 1) (v := .int .u32 (U d.arch)) (below_set (j := 0) (v := .int .u32 (U d.nr)) HB.out (Nat.le_refl _)) (Nat.le_refl _)) (Nat.le_refl _)) (Nat.le_refl _)) (Nat.le_refl _)) (Nat.le_refl _)) (Nat.le_refl _)) (Nat.le_refl _)) (Nat.le_refl _))
      have HP := Aside0.mk (blk_put (cs' := #[.int .u32 (U d.nr), .int .u32 (U d.arch), .int .u64 (U d.ip), .int .u64 (U d.a0), .int .u64 (U d.a1), .int .u64 (U d.a2), .int .u64 (U d.a3), .int .u64 (U d.a4), .int .u64 (U d.a5)]) (blk_put (cs' := #[.int .u32 (U d.nr), .int .u32 (U d.arch), .int .u64 (U d.ip), .int .u64 (U d.a0), .int .u64 (U d.a1), .int .u64 (U d.a2), .int .u64 (U d.a3), .int .u64 (U d.a4), .int .u64 0]) (blk_put (cs' := #[.int .u32 (U d.nr), .int .u32 (U d.arch), .int .u64 (U d.ip), .int .u64 (U d.a0), .int .u64 (U d.a1), .int .u64 (U d.a2), .int .u64 (U d.a3), .int .u64 0, .int .u64 0]) (blk_put (cs' := #[.int .u32 (U d.nr), .int .u32 (U d.arch), .int .u64 (U d.ip), .int .u64 (U d.a0), .int .u64 (U d.a1), .int .u64 (U d.a2), .int .u64 0, .int .u64 0, .int .u64 0]) (blk_put (cs' := #[.int .u32 (U d.nr), .int .u32 (U d.arch), .int .u64 (U d.ip), .int .u64 (U d.a0), .int .u64 (U d.a1), .int .u64 0, .int .u64 0, .int .u64 0, .int .u64 0]) (blk_put (cs' := #[.int .u32 (U d.nr), .int .u32 (U d.arch), .int .u64 (U d.ip), .int .u64 (U d.a0), .int .u64 0, .int .u64 0, .int .u64 0, .int .u64 0, .int .u64 0]) (blk_put (cs' := #[.int .u32 (U d.nr), .int .u32 (U d.arch), .int .u64 (U d.ip), .int .u64 0, .int .u64 0, .int .u64 0, .int .u64 0, .int .u64 0, .int .u64 0]) (blk_put (cs' := #[.int .u32 (U d.nr), .int .u32 (U d.arch), .int .u64 0, .int .u64 0, .int .u64 0, .int .u64 0, .int .u64 0, .int .u64 0, .int .u64 0]) (blk_put (cs' := #[.int .u32 (U d.nr), .int .u32 0, .int .u64 0, .int .u64 0, .int .u64 0, .int .u64 0, .int .u64 0, .int .u64 0, .int .u64 0]) HG.out 0 (.int .u32 (U d.nr)) rfl) 1 (.int .u32 (U d.arch)) rfl) 2 (.int .u64 (U d.ip)) rfl) 3 (.int .u64 (U d.a0)) rfl) 4 (.int .u64 (U d.a1)) rfl) 5 (.int .u64 (U d.a2)) rfl) 6 (.int .u64 (U d.a3)) rfl) 7 (.int .u64 (U d.a4)) rfl) 8 (.int .u64 (U d.a5)) rfl)
      clear hz
      go_wp2
      refine bodyPost_ret (results_ct rfl _ _ w.heap.size 26 #[.int .u32 (U d.nr), .int .u32 (U d.arch), .int .u64 (U d.ip), .int .u64 (U d.a0), .int .u64 (U d.a1), .int .u64 (U d.a2), .int .u64 (U d.a3), .int .u64 (U d.a4), .int .u64 (U d.a5)] (0, 0) _ rfl HP.out Try.underlying26 rfl (by kernel_rfl)) rfl ?_
      exact ⟨rfl, HV.out⟩
set_option maxRecDepth 100000 in
set_option maxHeartbeats 3200000 in
theorem no (A : Option Addr) (c : Nat) (l : List Int) (hl : l.length ≠ 64) (hl2 : l.length < 1000000000000000) (w : World) :
    Calls Try.prog 18 #[.slice A l.length c] w fun e w' => e = .returned (.tuple #[.agg #[.int .u32 0, .int .u32 0, .int .u64 0, .int .u64 0, .int .u64 0, .int .u64 0, .int .u64 0, .int .u64 0, .int .u64 0], .int .i64 21]) ∧ Below w.heap.size w w' := by
  have hq : ((l.length : Nat) : Int) ≠ 64 := by omega
  have hq2 : (((l.length : Nat) : Int) == 64) = false := by simpa using hq
  have hq3 : (((l.length : Nat) : Int) != 64) = true := by simpa using hq
  have HB := Aside0.mk (below_alloc (Below.refl w.heap.size w) (.cells #[.int .u32 0, .int .u32 0, .int .u64 0, .int .u64 0, .int .u64 0, .int .u64 0, .int .u64 0, .int .u64 0, .int .u64 0] 26))
  have HG := Aside0.mk (blk_new w (.cells #[.int .u32 0, .int .u32 0, .int .u64 0, .int .u64 0, .int .u64 0, .int .u64 0, .int .u64 0, .int .u64 0, .int .u64 0] 26))
  clear hl hl2
  go_enter Try.func18, Try.ntmps18
  go_wp2
  refine bodyPost_ret (results_ct rfl _ _ w.heap.size 26 #[.int .u32 0, .int .u32 0, .int .u64 0, .int .u64 0, .int .u64 0, .int .u64 0, .int .u64 0, .int .u64 0, .int .u64 0] (0, 0) _ rfl HG.out Try.underlying26 rfl (by kernel_rfl)) rfl ?_
  exact ⟨rfl, HB.out⟩
end Go.Proofs.Ytplplillpjnnnaa.RefRead
