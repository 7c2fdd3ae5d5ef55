/- The walk of the law SecdataApart: unlike data have unlike bytes. Conditions: the numbers and architectures have 32 bits. -/
import Derived.Test.YtplplillpjnnnaaEq
namespace Go.Proofs.Ytplplillpjnnnaa.ApartWalk
open Go.RowKit Go.Proofs.Ytplplillpjnnnaa.Bits Go.Proofs.Ytplplillpjnnnaa.Dat Go.Proofs.Ytplplillpjnnnaa.Common Go.Proofs.YtplplillpjnnnaaW.PrintWords Go.Proofs.YtplplillpjnnnaaW.PrintLast Go.Proofs.YtplplillpjnnnaaW.PrintMore
set_option linter.unusedVariables false
set_option linter.unusedSimpArgs false

theorem cells_of {W : World} {g : Nat} {d : Dt} (h : W.heap[g]? = some (.cells #[.int .u32 (U d.nr), .int .u32 (U d.arch), .int .u64 (U d.ip), .int .u64 (U d.a0), .int .u64 (U d.a1), .int .u64 (U d.a2), .int .u64 (U d.a3), .int .u64 (U d.a4), .int .u64 (U d.a5)] 26 (0, 0))) : W.cell? ⟨g, 0, none⟩ = some (.int .u32 (U d.nr)) ∧ W.cell? ⟨g, 1, none⟩ = some (.int .u32 (U d.arch)) ∧ W.cell? ⟨g, 2, none⟩ = some (.int .u64 (U d.ip)) ∧ W.cell? ⟨g, 3, none⟩ = some (.int .u64 (U d.a0)) ∧ W.cell? ⟨g, 4, none⟩ = some (.int .u64 (U d.a1)) ∧ W.cell? ⟨g, 5, none⟩ = some (.int .u64 (U d.a2)) ∧ W.cell? ⟨g, 6, none⟩ = some (.int .u64 (U d.a3)) ∧ W.cell? ⟨g, 7, none⟩ = some (.int .u64 (U d.a4)) ∧ W.cell? ⟨g, 8, none⟩ = some (.int .u64 (U d.a5)) :=
  ⟨blk_cell h 0, blk_cell h 1, blk_cell h 2, blk_cell h 3, blk_cell h 4, blk_cell h 5, blk_cell h 6, blk_cell h 7, blk_cell h 8⟩

theorem box2 {w w1 : World} {o o2 : Obj} (hb : Below ((w.alloc o).alloc o2).heap.size ((w.alloc o).alloc o2) w1) : w1.heap[w.heap.size]? = some o ∧ w1.heap[w.heap.size + 1]? = some o2 ∧ Below w.heap.size w w1 := by
  have h1 := blk_below (blk_new (w.alloc o) o2) hb
  rw [World.size_alloc] at h1
  exact ⟨blk_below (blk_alloc (blk_new w o) o2) hb, h1, below_step (below_alloc (below_alloc (Below.refl _ _) _) _) hb⟩
/-- The bytes of data, read as a string, in whatever world comes later. -/
theorem bytes_str (d : Dt) (W : World) : Calls Try.prog 11 #[.agg #[.int .u32 (U d.nr), .int .u32 (U d.arch), .int .u64 (U d.ip), .int .u64 (U d.a0), .int .u64 (U d.a1), .int .u64 (U d.a2), .int .u64 (U d.a3), .int .u64 (U d.a4), .int .u64 (U d.a5)]] W fun e w' => ∃ A c, e = .returned (.slice A 64 c) ∧ Below W.heap.size W w' ∧ (convert 28 9 (.slice A 64 c)).run Try.prog w' = .ok (.string (strOfNums (dB d))) w' ∧ ∀ W2, Below w'.heap.size w' W2 → (convert 28 9 (.slice A 64 c)).run Try.prog W2 = .ok (.string (strOfNums (dB d))) W2 :=
  (bytes_calls d W).mono fun e w' ⟨A, c, he, hr, hb⟩ => by
    have hC := (Kd.R_reads' hr).2.2
    rw [dB_length] at hC
    exact ⟨A, c, he, hb, Kd.C_string Try.underlying28 Try.underlying5 Try.underlying9 hC, fun W2 h2 => Kd.C_string Try.underlying28 Try.underlying5 Try.underlying9 (Kd.C_below hC h2)⟩
theorem le_bytes {n : Nat} {v u : BitVec 64} (h : le n v = le n u) (i : Nat) (hi : i < n) : Bits.byteOf v i = Bits.byteOf u i := by
  have e : ∀ x : BitVec 64, (le n x)[i]? = some (Bits.byteOf x i) := fun x => by
    unfold le
    rw [List.getElem?_map, List.getElem?_range hi]
    rfl
  have := congrArg (fun l => l[i]?) h
  simp only [e] at this
  exact Option.some.inj this
theorem le8_inj {v u : BitVec 64} (h : le 8 v = le 8 u) : v = u := ext64 fun j hj => by
  have hb := le_bytes h (j / 8) (by omega)
  have e := byteOf_bit v (j / 8) (j % 8) (by omega)
  have e2 := byteOf_bit u (j / 8) (j % 8) (by omega)
  have ej : 8 * (j / 8) + j % 8 = j := by omega
  rw [ej] at e e2
  rw [← e, ← e2, hb]
theorem high_false {v : BitVec 64} (h : (Lit.int .u32 (U v)).wf = true) (j : Nat) (hj : 32 ≤ j) : v.getLsbD j = false := by
  have h' : U v ≤ 4294967295 := by
    simp only [Lit.wf, IntKind.min, IntKind.max, IntKind.bits, IntKind.signed, Bool.false_eq_true, if_false, Bool.and_eq_true, decide_eq_true_eq] at h
    omega
  unfold U at h'
  rw [← BitVec.testBit_toNat]
  apply Nat.testBit_lt_two_pow
  have : (2:Nat) ^ 32 ≤ 2 ^ j := Nat.pow_le_pow_right (by decide) hj
  omega
theorem le4_inj {v u : BitVec 64} (h : le 4 v = le 4 u) (hv : (Lit.int .u32 (U v)).wf = true) (hu : (Lit.int .u32 (U u)).wf = true) : v = u := ext64 fun j hj => by
  by_cases h32 : j < 32
  · have hb := le_bytes h (j / 8) (by omega)
    have e := byteOf_bit v (j / 8) (j % 8) (by omega)
    have e2 := byteOf_bit u (j / 8) (j % 8) (by omega)
    have ej : 8 * (j / 8) + j % 8 = j := by omega
    rw [ej] at e e2
    rw [← e, ← e2, hb]
  · rw [high_false hv j (by omega), high_false hu j (by omega)]
theorem dB_inj (a b : Dt) (h : dB a = dB b) (ha : Dt.small a) (hb : Dt.small b) : a = b := by
  unfold dB at h
  have L : ∀ n v, (le n v).length = n := fun n v => by simp [le]
  obtain ⟨h0, h⟩ := List.append_inj h (by rw [L, L])
  obtain ⟨h1, h⟩ := List.append_inj h (by rw [L, L])
  obtain ⟨h2, h⟩ := List.append_inj h (by rw [L, L])
  obtain ⟨h3, h⟩ := List.append_inj h (by rw [L, L])
  obtain ⟨h4, h⟩ := List.append_inj h (by rw [L, L])
  obtain ⟨h5, h⟩ := List.append_inj h (by rw [L, L])
  obtain ⟨h6, h⟩ := List.append_inj h (by rw [L, L])
  obtain ⟨h7, h8⟩ := List.append_inj h (by rw [L, L])
  cases a; cases b
  simp only [Dt.mk.injEq]
  exact ⟨le4_inj h0 ha.1 hb.1, le4_inj h1 ha.2 hb.2, le8_inj h2, le8_inj h3, le8_inj h4, le8_inj h5, le8_inj h6, le8_inj h7, le8_inj h8⟩
set_option maxRecDepth 100000 in
set_option maxHeartbeats 3200000 in
theorem walk (a b : Dt) (ha : Dt.small a) (hb : Dt.small b) (w : World) :
    Calls Try.prog 3 #[.agg #[.int .u32 (U a.nr), .int .u32 (U a.arch), .int .u64 (U a.ip), .int .u64 (U a.a0), .int .u64 (U a.a1), .int .u64 (U a.a2), .int .u64 (U a.a3), .int .u64 (U a.a4), .int .u64 (U a.a5)], .agg #[.int .u32 (U b.nr), .int .u32 (U b.arch), .int .u64 (U b.ip), .int .u64 (U b.a0), .int .u64 (U b.a1), .int .u64 (U b.a2), .int .u64 (U b.a3), .int .u64 (U b.a4), .int .u64 (U b.a5)]] w fun e w' => e = .returned (.bool true) ∧ Below w.heap.size w w' := by
  have heq : ∀ W, (Op.equalIn 10000 26 (.agg #[.int .u32 (U a.nr), .int .u32 (U a.arch), .int .u64 (U a.ip), .int .u64 (U a.a0), .int .u64 (U a.a1), .int .u64 (U a.a2), .int .u64 (U a.a3), .int .u64 (U a.a4), .int .u64 (U a.a5)]) (.agg #[.int .u32 (U b.nr), .int .u32 (U b.arch), .int .u64 (U b.ip), .int .u64 (U b.a0), .int .u64 (U b.a1), .int .u64 (U b.a2), .int .u64 (U b.a3), .int .u64 (U b.a4), .int .u64 (U b.a5)])).run Try.prog W = .ok (eqB a b) W := fun W => eq_data a b ha hb W
  have HEQ := Aside0.mk heq
  clear heq
  have HST := Aside0.mk (str_inj (dB_bytes a) (dB_bytes b))
  have HIN := Aside0.mk (show decide (dB a = dB b) = eqB a b from by
    rw [Bool.eq_iff_iff, decide_eq_true_eq, eqB_iff]
    exact ⟨fun h => dB_inj a b h ha hb, fun h => by rw [h]⟩)
  clear ha hb
  go_enter Try.func3, Try.ntmps3
  go_wp2_with fail
  refine (head_calls _).mono ?_
  rintro e w1 ⟨rfl, hb1⟩
  obtain ⟨B0, B1, HB0⟩ := box2 hb1
  have HB := Aside0.mk HB0
  have c0 := cells_of B0
  have c1 := cells_of B1
  have CA := Aside0.mk (show ∀ W, Below w1.heap.size w1 W → W.heap[w.heap.size]? = some (.cells #[.int .u32 (U a.nr), .int .u32 (U a.arch), .int .u64 (U a.ip), .int .u64 (U a.a0), .int .u64 (U a.a1), .int .u64 (U a.a2), .int .u64 (U a.a3), .int .u64 (U a.a4), .int .u64 (U a.a5)] 26 (0, 0)) from fun W h => blk_below B0 h)
  have CB := Aside0.mk (show ∀ W, Below w1.heap.size w1 W → W.heap[w.heap.size + 1]? = some (.cells #[.int .u32 (U b.nr), .int .u32 (U b.arch), .int .u64 (U b.ip), .int .u64 (U b.a0), .int .u64 (U b.a1), .int .u64 (U b.a2), .int .u64 (U b.a3), .int .u64 (U b.a4), .int .u64 (U b.a5)] 26 (0, 0)) from fun W h => blk_below B1 h)
  clear hb1 HB0 B0 B1
  go_wp2_with fail
  have L0 : Below w1.heap.size w1 w1.drew := below_drew (Below.refl _ _)
  have T1 := Aside0.mk (fun W => bytes_str a W)
  have T2 := Aside0.mk (fun W => bytes_str b W)
  have heq := HEQ.out
  refine start_ (n := 15) (S := fun w' => w'.cell? ⟨w.heap.size, 0, none⟩ = some (.int .u32 (U a.nr)) ∧ w'.cell? ⟨w.heap.size, 1, none⟩ = some (.int .u32 (U a.arch)) ∧ w'.cell? ⟨w.heap.size, 2, none⟩ = some (.int .u64 (U a.ip)) ∧ w'.cell? ⟨w.heap.size, 3, none⟩ = some (.int .u64 (U a.a0)) ∧ w'.cell? ⟨w.heap.size, 4, none⟩ = some (.int .u64 (U a.a1)) ∧ w'.cell? ⟨w.heap.size, 5, none⟩ = some (.int .u64 (U a.a2)) ∧ w'.cell? ⟨w.heap.size, 6, none⟩ = some (.int .u64 (U a.a3)) ∧ w'.cell? ⟨w.heap.size, 7, none⟩ = some (.int .u64 (U a.a4)) ∧ w'.cell? ⟨w.heap.size, 8, none⟩ = some (.int .u64 (U a.a5)) ∧ w'.cell? ⟨w.heap.size + 1, 0, none⟩ = some (.int .u32 (U b.nr)) ∧ w'.cell? ⟨w.heap.size + 1, 1, none⟩ = some (.int .u32 (U b.arch)) ∧ w'.cell? ⟨w.heap.size + 1, 2, none⟩ = some (.int .u64 (U b.ip)) ∧ w'.cell? ⟨w.heap.size + 1, 3, none⟩ = some (.int .u64 (U b.a0)) ∧ w'.cell? ⟨w.heap.size + 1, 4, none⟩ = some (.int .u64 (U b.a1)) ∧ w'.cell? ⟨w.heap.size + 1, 5, none⟩ = some (.int .u64 (U b.a2)) ∧ w'.cell? ⟨w.heap.size + 1, 6, none⟩ = some (.int .u64 (U b.a3)) ∧ w'.cell? ⟨w.heap.size + 1, 7, none⟩ = some (.int .u64 (U b.a4)) ∧ w'.cell? ⟨w.heap.size + 1, 8, none⟩ = some (.int .u64 (U b.a5))) (ds := []) #[false, false, false, false, false, false, false, false, false, false, false, false, false, false, false] (by kernel_rfl) rfl rfl ⟨((blk_cell (CA.out _ L0) 0).trans rfl), ((blk_cell (CA.out _ L0) 1).trans rfl), ((blk_cell (CA.out _ L0) 2).trans rfl), ((blk_cell (CA.out _ L0) 3).trans rfl), ((blk_cell (CA.out _ L0) 4).trans rfl), ((blk_cell (CA.out _ L0) 5).trans rfl), ((blk_cell (CA.out _ L0) 6).trans rfl), ((blk_cell (CA.out _ L0) 7).trans rfl), ((blk_cell (CA.out _ L0) 8).trans rfl), ((blk_cell (CB.out _ L0) 0).trans rfl), ((blk_cell (CB.out _ L0) 1).trans rfl), ((blk_cell (CB.out _ L0) 2).trans rfl), ((blk_cell (CB.out _ L0) 3).trans rfl), ((blk_cell (CB.out _ L0) 4).trans rfl), ((blk_cell (CB.out _ L0) 5).trans rfl), ((blk_cell (CB.out _ L0) 6).trans rfl), ((blk_cell (CB.out _ L0) 7).trans rfl), ((blk_cell (CB.out _ L0) 8).trans rfl)⟩ (fun hHeld => ?_)
  refine pure_ (i := 0) (N := some 7) (v := ?_) (a' := ?_) #[true, false, false, false, false, false, false, false, false, false, false, false, false, false, false] rfl rfl (by kernel_rfl) (fun _ _ _ h => h) (Or.inl ⟨by rfl, ?_⟩) ?_ ?_
  rotate_left
  · intro w'
    go_simp
    with_reducible rfl
  rotate_left
  · simp only [Act.put, List.setIfInBounds_toArray, List.set_cons_zero, List.set_cons_succ, i64_w, i32_w]
    rfl
  refine pure_ (i := 1) (N := some 8) (v := ?_) (a' := ?_) #[true, true, false, false, false, false, false, false, false, false, false, false, false, false, false] rfl rfl (by kernel_rfl) (fun _ _ _ h => h) (Or.inl ⟨by rfl, ?_⟩) ?_ ?_
  rotate_left
  · intro w'
    go_simp
    with_reducible rfl
  rotate_left
  · simp only [Act.put, List.setIfInBounds_toArray, List.set_cons_zero, List.set_cons_succ, i64_w, i32_w]
    rfl
  refine take_ (i := 2) (N := some 9) (v := ?_) (a' := ?_) #[true, true, true, false, false, false, false, false, false, false, false, false, false, false, false] rfl rfl (by kernel_rfl) (fun _ _ _ h => h) (Or.inl ⟨by rfl, ?_⟩) hHeld ?_ ?_
  rotate_left
  · rintro w' ⟨s0, s1, s2, s3, s4, s5, s6, s7, s8, s9, s10, s11, s12, s13, s14, s15, s16, s17⟩
    go_simp
    with_reducible rfl
  rotate_left
  · simp only [Act.put, List.setIfInBounds_toArray, List.set_cons_zero, List.set_cons_succ, i64_w, i32_w]
    rfl
  refine take_ (i := 5) (N := some 12) (v := ?_) (a' := ?_) #[true, true, true, false, false, true, false, false, false, false, false, false, false, false, false] rfl rfl (by kernel_rfl) (fun _ _ _ h => h) (Or.inl ⟨by rfl, ?_⟩) hHeld ?_ ?_
  rotate_left
  · rintro w' ⟨s0, s1, s2, s3, s4, s5, s6, s7, s8, s9, s10, s11, s12, s13, s14, s15, s16, s17⟩
    go_simp
    with_reducible rfl
  rotate_left
  · simp only [Act.put, List.setIfInBounds_toArray, List.set_cons_zero, List.set_cons_succ, i64_w, i32_w]
    rfl
  refine take_ (i := 9) (N := some 16) (v := ?_) (a' := ?_) #[true, true, true, false, false, true, false, false, false, true, false, false, false, false, false] rfl rfl (by kernel_rfl) (fun _ _ _ h => h) (Or.inl ⟨by rfl, ?_⟩) hHeld ?_ ?_
  rotate_left
  · rintro w' ⟨s0, s1, s2, s3, s4, s5, s6, s7, s8, s9, s10, s11, s12, s13, s14, s15, s16, s17⟩
    go_simp
    with_reducible rfl
  rotate_left
  · simp only [Act.put, List.setIfInBounds_toArray, List.set_cons_zero, List.set_cons_succ, i64_w, i32_w]
    rfl
  refine take_ (i := 10) (N := some 17) (v := ?_) (a' := ?_) #[true, true, true, false, false, true, false, false, false, true, true, false, false, false, false] rfl rfl (by kernel_rfl) (fun _ _ _ h => h) (Or.inl ⟨by rfl, ?_⟩) hHeld ?_ ?_
  rotate_left
  · rintro w' ⟨s0, s1, s2, s3, s4, s5, s6, s7, s8, s9, s10, s11, s12, s13, s14, s15, s16, s17⟩
    go_simp
    with_reducible rfl
  rotate_left
  · simp only [Act.put, List.setIfInBounds_toArray, List.set_cons_zero, List.set_cons_succ, i64_w, i32_w]
    rfl
  refine pure_ (i := 11) (N := some 18) (v := ?_) (a' := ?_) #[true, true, true, false, false, true, false, false, false, true, true, true, false, false, false] rfl rfl (by kernel_rfl) (fun _ _ _ h => h) (Or.inl ⟨by rfl, ?_⟩) ?_ ?_
  rotate_left
  · intro w'
    go_simp
    with_reducible rfl
  rotate_left
  · simp only [Act.put, List.setIfInBounds_toArray, List.set_cons_zero, List.set_cons_succ, i64_w, i32_w]
    rfl
  refine one_ (i := 3) (N := some 10) #[true, true, true, true, false, true, false, false, false, true, true, true, false, false, false] rfl rfl (by kernel_rfl) (by decide) (fun K hK => ?_)
  refine goes_ Try.func11 (by kernel_rfl) rfl #[.agg #[.int .u32 (U a.nr), .int .u32 (U a.arch), .int .u64 (U a.ip), .int .u64 (U a.a0), .int .u64 (U a.a1), .int .u64 (U a.a2), .int .u64 (U a.a3), .int .u64 (U a.a4), .int .u64 (U a.a5)]] (by rfl) rfl rfl (by simp only [List.map_toArray, List.map_cons, List.map_nil]; rfl) ?_
  with_reducible refine (bytes_str a _).mono ?_
  rintro e w2 ⟨A2, c2, rfl, hbA, kA, kkA⟩
  refine ⟨_, rfl, ?_⟩
  have L1 := below_step L0 hbA
  have KKA := Aside0.mk kkA
  clear kkA
  refine hK.out _ _ ⟨((blk_cell (CA.out _ L1) 0).trans rfl), ((blk_cell (CA.out _ L1) 1).trans rfl), ((blk_cell (CA.out _ L1) 2).trans rfl), ((blk_cell (CA.out _ L1) 3).trans rfl), ((blk_cell (CA.out _ L1) 4).trans rfl), ((blk_cell (CA.out _ L1) 5).trans rfl), ((blk_cell (CA.out _ L1) 6).trans rfl), ((blk_cell (CA.out _ L1) 7).trans rfl), ((blk_cell (CA.out _ L1) 8).trans rfl), ((blk_cell (CB.out _ L1) 0).trans rfl), ((blk_cell (CB.out _ L1) 1).trans rfl), ((blk_cell (CB.out _ L1) 2).trans rfl), ((blk_cell (CB.out _ L1) 3).trans rfl), ((blk_cell (CB.out _ L1) 4).trans rfl), ((blk_cell (CB.out _ L1) 5).trans rfl), ((blk_cell (CB.out _ L1) 6).trans rfl), ((blk_cell (CB.out _ L1) 7).trans rfl), ((blk_cell (CB.out _ L1) 8).trans rfl)⟩ (fun hHeld => ?_)
  clear hK K
  refine norm_ (a' := ?_) ?_ ?_
  rotate_left
  · show Act.put _ (some 10) _ = _
    simp only [Act.put, List.setIfInBounds_toArray, List.set_cons_zero, List.set_cons_succ, i64_w, i32_w]
    rfl
  refine join_ (σ := Option Addr × Nat) 4 #[true, true, true, true, true, true, true, true, false, true, true, true, false, false, false] (fun s => [(11, Value.string (strOfNums (dB a))), (13, Value.slice s.1 64 s.2), (14, Value.string (strOfNums (dB b)))]) (fun _ w' => Below w1.heap.size w1 w') ?_ ?_
  rotate_left
  · intro hCont
    refine two_ (i := 4) (j := 6) (Ni := some 11) (Nj := some 13) #[true, true, true, true, true, true, false, false, false, true, true, true, false, false, false] #[true, true, true, true, false, true, true, false, false, true, true, true, false, false, false] rfl rfl rfl rfl (by kernel_rfl) (by decide) (by decide) (fun K hK => ?_) (fun K hK => ?_)
    · skip
      refine value_ (w1 := ?_) (v := ?_) (by rfl) rfl ?_ ?_
      rotate_left 2
      · go_simp
        constructor
        · rfl
        · rfl
      refine hK.out _ _ ⟨((blk_cell (CA.out _ L1) 0).trans rfl), ((blk_cell (CA.out _ L1) 1).trans rfl), ((blk_cell (CA.out _ L1) 2).trans rfl), ((blk_cell (CA.out _ L1) 3).trans rfl), ((blk_cell (CA.out _ L1) 4).trans rfl), ((blk_cell (CA.out _ L1) 5).trans rfl), ((blk_cell (CA.out _ L1) 6).trans rfl), ((blk_cell (CA.out _ L1) 7).trans rfl), ((blk_cell (CA.out _ L1) 8).trans rfl), ((blk_cell (CB.out _ L1) 0).trans rfl), ((blk_cell (CB.out _ L1) 1).trans rfl), ((blk_cell (CB.out _ L1) 2).trans rfl), ((blk_cell (CB.out _ L1) 3).trans rfl), ((blk_cell (CB.out _ L1) 4).trans rfl), ((blk_cell (CB.out _ L1) 5).trans rfl), ((blk_cell (CB.out _ L1) 6).trans rfl), ((blk_cell (CB.out _ L1) 7).trans rfl), ((blk_cell (CB.out _ L1) 8).trans rfl)⟩ (fun hHeld => ?_)
      clear hK K
      refine norm_ (a' := ?_) ?_ ?_
      rotate_left
      · show Act.put _ (some 11) _ = _
        simp only [Act.put, List.setIfInBounds_toArray, List.set_cons_zero, List.set_cons_succ, i64_w, i32_w]
        rfl
      refine one_ (i := 6) (N := some 13) #[true, true, true, true, true, true, true, false, false, true, true, true, false, false, false] rfl rfl (by kernel_rfl) (by decide) (fun K hK => ?_)
      refine goes_ Try.func11 (by kernel_rfl) rfl #[.agg #[.int .u32 (U b.nr), .int .u32 (U b.arch), .int .u64 (U b.ip), .int .u64 (U b.a0), .int .u64 (U b.a1), .int .u64 (U b.a2), .int .u64 (U b.a3), .int .u64 (U b.a4), .int .u64 (U b.a5)]] (by rfl) rfl rfl (by simp only [List.map_toArray, List.map_cons, List.map_nil]; rfl) ?_
      with_reducible refine (bytes_str b _).mono ?_
      rintro e w3 ⟨A3, c3, rfl, hbB, kB, kkB⟩
      refine ⟨_, rfl, ?_⟩
      have L2 := below_step L1 hbB
      have kA2 := KKA.out _ hbB
      clear kkB
      refine hK.out _ _ ⟨((blk_cell (CA.out _ L2) 0).trans rfl), ((blk_cell (CA.out _ L2) 1).trans rfl), ((blk_cell (CA.out _ L2) 2).trans rfl), ((blk_cell (CA.out _ L2) 3).trans rfl), ((blk_cell (CA.out _ L2) 4).trans rfl), ((blk_cell (CA.out _ L2) 5).trans rfl), ((blk_cell (CA.out _ L2) 6).trans rfl), ((blk_cell (CA.out _ L2) 7).trans rfl), ((blk_cell (CA.out _ L2) 8).trans rfl), ((blk_cell (CB.out _ L2) 0).trans rfl), ((blk_cell (CB.out _ L2) 1).trans rfl), ((blk_cell (CB.out _ L2) 2).trans rfl), ((blk_cell (CB.out _ L2) 3).trans rfl), ((blk_cell (CB.out _ L2) 4).trans rfl), ((blk_cell (CB.out _ L2) 5).trans rfl), ((blk_cell (CB.out _ L2) 6).trans rfl), ((blk_cell (CB.out _ L2) 7).trans rfl), ((blk_cell (CB.out _ L2) 8).trans rfl)⟩ (fun hHeld => ?_)
      clear hK K
      refine norm_ (a' := ?_) ?_ ?_
      rotate_left
      · show Act.put _ (some 13) _ = _
        simp only [Act.put, List.setIfInBounds_toArray, List.set_cons_zero, List.set_cons_succ, i64_w, i32_w]
        rfl
      refine one_ (i := 7) (N := some 14) #[true, true, true, true, true, true, true, true, false, true, true, true, false, false, false] rfl rfl (by kernel_rfl) (by decide) (fun K hK => ?_)
      refine value_ (w1 := ?_) (v := ?_) (by rfl) rfl ?_ ?_
      rotate_left 2
      · go_simp
        constructor
        · rfl
        · rfl
      refine hK.out _ _ ⟨((blk_cell (CA.out _ L2) 0).trans rfl), ((blk_cell (CA.out _ L2) 1).trans rfl), ((blk_cell (CA.out _ L2) 2).trans rfl), ((blk_cell (CA.out _ L2) 3).trans rfl), ((blk_cell (CA.out _ L2) 4).trans rfl), ((blk_cell (CA.out _ L2) 5).trans rfl), ((blk_cell (CA.out _ L2) 6).trans rfl), ((blk_cell (CA.out _ L2) 7).trans rfl), ((blk_cell (CA.out _ L2) 8).trans rfl), ((blk_cell (CB.out _ L2) 0).trans rfl), ((blk_cell (CB.out _ L2) 1).trans rfl), ((blk_cell (CB.out _ L2) 2).trans rfl), ((blk_cell (CB.out _ L2) 3).trans rfl), ((blk_cell (CB.out _ L2) 4).trans rfl), ((blk_cell (CB.out _ L2) 5).trans rfl), ((blk_cell (CB.out _ L2) 6).trans rfl), ((blk_cell (CB.out _ L2) 7).trans rfl), ((blk_cell (CB.out _ L2) 8).trans rfl)⟩ (fun hHeld => ?_)
      clear hK K
      refine norm_ (a' := ?_) ?_ ?_
      rotate_left
      · show Act.put _ (some 14) _ = _
        simp only [Act.put, List.setIfInBounds_toArray, List.set_cons_zero, List.set_cons_succ, i64_w, i32_w]
        rfl
      exact norm_ (by simp only [putAll, Act.put, List.setIfInBounds_toArray, List.set_cons_zero, List.set_cons_succ]) (hCont (A3, c3) _ L2)
    · skip
      refine goes_ Try.func11 (by kernel_rfl) rfl #[.agg #[.int .u32 (U b.nr), .int .u32 (U b.arch), .int .u64 (U b.ip), .int .u64 (U b.a0), .int .u64 (U b.a1), .int .u64 (U b.a2), .int .u64 (U b.a3), .int .u64 (U b.a4), .int .u64 (U b.a5)]] (by rfl) rfl rfl (by simp only [List.map_toArray, List.map_cons, List.map_nil]; rfl) ?_
      with_reducible refine (bytes_str b _).mono ?_
      rintro e w3 ⟨A3, c3, rfl, hbB, kB, kkB⟩
      refine ⟨_, rfl, ?_⟩
      have L2 := below_step L1 hbB
      have kA2 := KKA.out _ hbB
      clear kkB
      refine hK.out _ _ ⟨((blk_cell (CA.out _ L2) 0).trans rfl), ((blk_cell (CA.out _ L2) 1).trans rfl), ((blk_cell (CA.out _ L2) 2).trans rfl), ((blk_cell (CA.out _ L2) 3).trans rfl), ((blk_cell (CA.out _ L2) 4).trans rfl), ((blk_cell (CA.out _ L2) 5).trans rfl), ((blk_cell (CA.out _ L2) 6).trans rfl), ((blk_cell (CA.out _ L2) 7).trans rfl), ((blk_cell (CA.out _ L2) 8).trans rfl), ((blk_cell (CB.out _ L2) 0).trans rfl), ((blk_cell (CB.out _ L2) 1).trans rfl), ((blk_cell (CB.out _ L2) 2).trans rfl), ((blk_cell (CB.out _ L2) 3).trans rfl), ((blk_cell (CB.out _ L2) 4).trans rfl), ((blk_cell (CB.out _ L2) 5).trans rfl), ((blk_cell (CB.out _ L2) 6).trans rfl), ((blk_cell (CB.out _ L2) 7).trans rfl), ((blk_cell (CB.out _ L2) 8).trans rfl)⟩ (fun hHeld => ?_)
      clear hK K
      refine norm_ (a' := ?_) ?_ ?_
      rotate_left
      · show Act.put _ (some 13) _ = _
        simp only [Act.put, List.setIfInBounds_toArray, List.set_cons_zero, List.set_cons_succ, i64_w, i32_w]
        rfl
      refine two_ (i := 4) (j := 7) (Ni := some 11) (Nj := some 14) #[true, true, true, true, true, true, true, false, false, true, true, true, false, false, false] #[true, true, true, true, false, true, true, true, false, true, true, true, false, false, false] rfl rfl rfl rfl (by kernel_rfl) (by decide) (by decide) (fun K hK => ?_) (fun K hK => ?_)
      · skip
        refine value_ (w1 := ?_) (v := ?_) (by rfl) rfl ?_ ?_
        rotate_left 2
        · go_simp
          constructor
          · rfl
          · rfl
        refine hK.out _ _ ⟨((blk_cell (CA.out _ L2) 0).trans rfl), ((blk_cell (CA.out _ L2) 1).trans rfl), ((blk_cell (CA.out _ L2) 2).trans rfl), ((blk_cell (CA.out _ L2) 3).trans rfl), ((blk_cell (CA.out _ L2) 4).trans rfl), ((blk_cell (CA.out _ L2) 5).trans rfl), ((blk_cell (CA.out _ L2) 6).trans rfl), ((blk_cell (CA.out _ L2) 7).trans rfl), ((blk_cell (CA.out _ L2) 8).trans rfl), ((blk_cell (CB.out _ L2) 0).trans rfl), ((blk_cell (CB.out _ L2) 1).trans rfl), ((blk_cell (CB.out _ L2) 2).trans rfl), ((blk_cell (CB.out _ L2) 3).trans rfl), ((blk_cell (CB.out _ L2) 4).trans rfl), ((blk_cell (CB.out _ L2) 5).trans rfl), ((blk_cell (CB.out _ L2) 6).trans rfl), ((blk_cell (CB.out _ L2) 7).trans rfl), ((blk_cell (CB.out _ L2) 8).trans rfl)⟩ (fun hHeld => ?_)
        clear hK K
        refine norm_ (a' := ?_) ?_ ?_
        rotate_left
        · show Act.put _ (some 11) _ = _
          simp only [Act.put, List.setIfInBounds_toArray, List.set_cons_zero, List.set_cons_succ, i64_w, i32_w]
          rfl
        refine one_ (i := 7) (N := some 14) #[true, true, true, true, true, true, true, true, false, true, true, true, false, false, false] rfl rfl (by kernel_rfl) (by decide) (fun K hK => ?_)
        refine value_ (w1 := ?_) (v := ?_) (by rfl) rfl ?_ ?_
        rotate_left 2
        · go_simp
          constructor
          · rfl
          · rfl
        refine hK.out _ _ ⟨((blk_cell (CA.out _ L2) 0).trans rfl), ((blk_cell (CA.out _ L2) 1).trans rfl), ((blk_cell (CA.out _ L2) 2).trans rfl), ((blk_cell (CA.out _ L2) 3).trans rfl), ((blk_cell (CA.out _ L2) 4).trans rfl), ((blk_cell (CA.out _ L2) 5).trans rfl), ((blk_cell (CA.out _ L2) 6).trans rfl), ((blk_cell (CA.out _ L2) 7).trans rfl), ((blk_cell (CA.out _ L2) 8).trans rfl), ((blk_cell (CB.out _ L2) 0).trans rfl), ((blk_cell (CB.out _ L2) 1).trans rfl), ((blk_cell (CB.out _ L2) 2).trans rfl), ((blk_cell (CB.out _ L2) 3).trans rfl), ((blk_cell (CB.out _ L2) 4).trans rfl), ((blk_cell (CB.out _ L2) 5).trans rfl), ((blk_cell (CB.out _ L2) 6).trans rfl), ((blk_cell (CB.out _ L2) 7).trans rfl), ((blk_cell (CB.out _ L2) 8).trans rfl)⟩ (fun hHeld => ?_)
        clear hK K
        refine norm_ (a' := ?_) ?_ ?_
        rotate_left
        · show Act.put _ (some 14) _ = _
          simp only [Act.put, List.setIfInBounds_toArray, List.set_cons_zero, List.set_cons_succ, i64_w, i32_w]
          rfl
        exact norm_ (by simp only [putAll, Act.put, List.setIfInBounds_toArray, List.set_cons_zero, List.set_cons_succ]) (hCont (A3, c3) _ L2)
      · skip
        refine value_ (w1 := ?_) (v := ?_) (by rfl) rfl ?_ ?_
        rotate_left 2
        · go_simp
          constructor
          · rfl
          · rfl
        refine hK.out _ _ ⟨((blk_cell (CA.out _ L2) 0).trans rfl), ((blk_cell (CA.out _ L2) 1).trans rfl), ((blk_cell (CA.out _ L2) 2).trans rfl), ((blk_cell (CA.out _ L2) 3).trans rfl), ((blk_cell (CA.out _ L2) 4).trans rfl), ((blk_cell (CA.out _ L2) 5).trans rfl), ((blk_cell (CA.out _ L2) 6).trans rfl), ((blk_cell (CA.out _ L2) 7).trans rfl), ((blk_cell (CA.out _ L2) 8).trans rfl), ((blk_cell (CB.out _ L2) 0).trans rfl), ((blk_cell (CB.out _ L2) 1).trans rfl), ((blk_cell (CB.out _ L2) 2).trans rfl), ((blk_cell (CB.out _ L2) 3).trans rfl), ((blk_cell (CB.out _ L2) 4).trans rfl), ((blk_cell (CB.out _ L2) 5).trans rfl), ((blk_cell (CB.out _ L2) 6).trans rfl), ((blk_cell (CB.out _ L2) 7).trans rfl), ((blk_cell (CB.out _ L2) 8).trans rfl)⟩ (fun hHeld => ?_)
        clear hK K
        refine norm_ (a' := ?_) ?_ ?_
        rotate_left
        · show Act.put _ (some 14) _ = _
          simp only [Act.put, List.setIfInBounds_toArray, List.set_cons_zero, List.set_cons_succ, i64_w, i32_w]
          rfl
        refine one_ (i := 4) (N := some 11) #[true, true, true, true, true, true, true, true, false, true, true, true, false, false, false] rfl rfl (by kernel_rfl) (by decide) (fun K hK => ?_)
        refine value_ (w1 := ?_) (v := ?_) (by rfl) rfl ?_ ?_
        rotate_left 2
        · go_simp
          constructor
          · rfl
          · rfl
        refine hK.out _ _ ⟨((blk_cell (CA.out _ L2) 0).trans rfl), ((blk_cell (CA.out _ L2) 1).trans rfl), ((blk_cell (CA.out _ L2) 2).trans rfl), ((blk_cell (CA.out _ L2) 3).trans rfl), ((blk_cell (CA.out _ L2) 4).trans rfl), ((blk_cell (CA.out _ L2) 5).trans rfl), ((blk_cell (CA.out _ L2) 6).trans rfl), ((blk_cell (CA.out _ L2) 7).trans rfl), ((blk_cell (CA.out _ L2) 8).trans rfl), ((blk_cell (CB.out _ L2) 0).trans rfl), ((blk_cell (CB.out _ L2) 1).trans rfl), ((blk_cell (CB.out _ L2) 2).trans rfl), ((blk_cell (CB.out _ L2) 3).trans rfl), ((blk_cell (CB.out _ L2) 4).trans rfl), ((blk_cell (CB.out _ L2) 5).trans rfl), ((blk_cell (CB.out _ L2) 6).trans rfl), ((blk_cell (CB.out _ L2) 7).trans rfl), ((blk_cell (CB.out _ L2) 8).trans rfl)⟩ (fun hHeld => ?_)
        clear hK K
        refine norm_ (a' := ?_) ?_ ?_
        rotate_left
        · show Act.put _ (some 11) _ = _
          simp only [Act.put, List.setIfInBounds_toArray, List.set_cons_zero, List.set_cons_succ, i64_w, i32_w]
          rfl
        exact norm_ (by simp only [putAll, Act.put, List.setIfInBounds_toArray, List.set_cons_zero, List.set_cons_succ]) (hCont (A3, c3) _ L2)
  rintro ⟨A3, c3⟩ w3 L2
  have hHeld : w3.cell? ⟨w.heap.size, 0, none⟩ = some (.int .u32 (U a.nr)) ∧ w3.cell? ⟨w.heap.size, 1, none⟩ = some (.int .u32 (U a.arch)) ∧ w3.cell? ⟨w.heap.size, 2, none⟩ = some (.int .u64 (U a.ip)) ∧ w3.cell? ⟨w.heap.size, 3, none⟩ = some (.int .u64 (U a.a0)) ∧ w3.cell? ⟨w.heap.size, 4, none⟩ = some (.int .u64 (U a.a1)) ∧ w3.cell? ⟨w.heap.size, 5, none⟩ = some (.int .u64 (U a.a2)) ∧ w3.cell? ⟨w.heap.size, 6, none⟩ = some (.int .u64 (U a.a3)) ∧ w3.cell? ⟨w.heap.size, 7, none⟩ = some (.int .u64 (U a.a4)) ∧ w3.cell? ⟨w.heap.size, 8, none⟩ = some (.int .u64 (U a.a5)) ∧ w3.cell? ⟨w.heap.size + 1, 0, none⟩ = some (.int .u32 (U b.nr)) ∧ w3.cell? ⟨w.heap.size + 1, 1, none⟩ = some (.int .u32 (U b.arch)) ∧ w3.cell? ⟨w.heap.size + 1, 2, none⟩ = some (.int .u64 (U b.ip)) ∧ w3.cell? ⟨w.heap.size + 1, 3, none⟩ = some (.int .u64 (U b.a0)) ∧ w3.cell? ⟨w.heap.size + 1, 4, none⟩ = some (.int .u64 (U b.a1)) ∧ w3.cell? ⟨w.heap.size + 1, 5, none⟩ = some (.int .u64 (U b.a2)) ∧ w3.cell? ⟨w.heap.size + 1, 6, none⟩ = some (.int .u64 (U b.a3)) ∧ w3.cell? ⟨w.heap.size + 1, 7, none⟩ = some (.int .u64 (U b.a4)) ∧ w3.cell? ⟨w.heap.size + 1, 8, none⟩ = some (.int .u64 (U b.a5)) := ⟨((blk_cell (CA.out _ L2) 0).trans rfl), ((blk_cell (CA.out _ L2) 1).trans rfl), ((blk_cell (CA.out _ L2) 2).trans rfl), ((blk_cell (CA.out _ L2) 3).trans rfl), ((blk_cell (CA.out _ L2) 4).trans rfl), ((blk_cell (CA.out _ L2) 5).trans rfl), ((blk_cell (CA.out _ L2) 6).trans rfl), ((blk_cell (CA.out _ L2) 7).trans rfl), ((blk_cell (CA.out _ L2) 8).trans rfl), ((blk_cell (CB.out _ L2) 0).trans rfl), ((blk_cell (CB.out _ L2) 1).trans rfl), ((blk_cell (CB.out _ L2) 2).trans rfl), ((blk_cell (CB.out _ L2) 3).trans rfl), ((blk_cell (CB.out _ L2) 4).trans rfl), ((blk_cell (CB.out _ L2) 5).trans rfl), ((blk_cell (CB.out _ L2) 6).trans rfl), ((blk_cell (CB.out _ L2) 7).trans rfl), ((blk_cell (CB.out _ L2) 8).trans rfl)⟩
  refine norm_ (a' := ?_) ?_ ?_
  rotate_left
  · simp only [putAll, Act.put, List.setIfInBounds_toArray, List.set_cons_zero, List.set_cons_succ]
    rfl
  refine pure_ (i := 8) (N := some 15) (v := ?_) (a' := ?_) #[true, true, true, true, true, true, true, true, true, true, true, true, false, false, false] rfl rfl (by kernel_rfl) (fun _ _ _ h => h) (Or.inl ⟨by rfl, ?_⟩) ?_ ?_
  rotate_left
  · intro w'
    go_simp
    with_reducible rfl
  rotate_left
  · simp only [Act.put, List.setIfInBounds_toArray, List.set_cons_zero, List.set_cons_succ, i64_w, i32_w]
    rfl
  refine pure_ (i := 12) (N := some 19) (v := ?_) (a' := ?_) #[true, true, true, true, true, true, true, true, true, true, true, true, true, false, false] rfl rfl (by kernel_rfl) (fun _ _ _ h => h) (Or.inl ⟨by rfl, ?_⟩) ?_ ?_
  rotate_left
  · intro w'
    go_simp
    with_reducible rfl
  rotate_left
  · simp only [Act.put, List.setIfInBounds_toArray, List.set_cons_zero, List.set_cons_succ, i64_w, i32_w]
    rfl
  refine pure_ (i := 13) (N := some 20) (v := ?_) (a' := ?_) #[true, true, true, true, true, true, true, true, true, true, true, true, true, true, false] rfl rfl (by kernel_rfl) (fun _ _ _ h => h) (Or.inl ⟨by rfl, ?_⟩) ?_ ?_
  rotate_left
  · intro w'
    go_simp
    with_reducible rfl
  rotate_left
  · simp only [Act.put, List.setIfInBounds_toArray, List.set_cons_zero, List.set_cons_succ, i64_w, i32_w]
    rfl
  refine pure_ (i := 14) (N := some 4) (v := ?_) (a' := ?_) #[true, true, true, true, true, true, true, true, true, true, true, true, true, true, true] rfl rfl (by kernel_rfl) (fun _ _ _ h => h) (Or.inl ⟨by rfl, ?_⟩) ?_ ?_
  rotate_left
  · intro w'
    go_simp
    with_reducible rfl
  rotate_left
  · simp only [Act.put, List.setIfInBounds_toArray, List.set_cons_zero, List.set_cons_succ, i64_w, i32_w]
    rfl
  refine done_ (by kernel_rfl) ?_
  have HE : ((strOfNums (dB a)).toList == (strOfNums (dB b)).toList) = eqB a b := HST.out.trans HIN.out
  have HE2 := Aside0.mk HE
  have HB3 := Aside0.mk (below_step HB.out L2)
  clear HE hHeld kA heq
  go_wp2
  go_ret
  refine ⟨?_, HB3.out⟩
  show Ending.returned (Value.bool (((strOfNums (dB a)).toList == (strOfNums (dB b)).toList) == eqB a b)) = _
  rw [HE2.out]
  simp
end Go.Proofs.Ytplplillpjnnnaa.ApartWalk
