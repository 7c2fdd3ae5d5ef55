/- The walk of the law SecdataBytes: data are laid out as the document says, in new memory, and read as the same. Conditions: the number and the architecture have 32 bits. -/
import Derived.Test.YtplplillpjnnnaaWalkSecdataApart
import Derived.Test.YtplplillpjnnnaaRefBytes
import Derived.Test.YtplplillpjnnnaaRead
namespace Go.Proofs.Ytplplillpjnnnaa.BytesWalk
open Go.RowKit Go.Proofs.Ytplplillpjnnnaa.Bits Go.Proofs.Ytplplillpjnnnaa.Dat Go.Proofs.Ytplplillpjnnnaa.Common Go.Proofs.Ytplplillpjnnnaa.ApartWalk Go.Proofs.YtplplillpjnnnaaW.PrintWords Go.Proofs.YtplplillpjnnnaaW.PrintLast Go.Proofs.YtplplillpjnnnaaW.PrintMore
set_option linter.unusedVariables false
set_option linter.unusedSimpArgs false

/-- A row of 64 bytes reads as a string. -/
theorem row_str {W : World} {base : Nat} {ok : Nat → Prop} {A : Option Addr} {c : Nat} {l : List Int} (hl : l.length = 64) (h : Kd.R (Kd.int .u8) 5 W base ok (.slice A 64 c) l) : Kd.C (Kd.int .u8) W A 64 l ∧ ∀ W2, Below W.heap.size W W2 → (convert 28 9 (.slice A 64 c)).run Try.prog W2 = .ok (.string (strOfNums l)) W2 := by
  have hC := (Kd.R_reads' h).2.2
  rw [hl] at hC
  exact ⟨hC, fun W2 h2 => Kd.C_string Try.underlying28 Try.underlying5 Try.underlying9 (Kd.C_below hC h2)⟩
/-- The document's bytes of data, read as a string. -/
theorem ref_str (d : Dt) (W : World) : Calls Try.prog 16 #[.agg #[.int .u32 (U d.nr), .int .u32 (U d.arch), .int .u64 (U d.ip), .int .u64 (U d.a0), .int .u64 (U d.a1), .int .u64 (U d.a2), .int .u64 (U d.a3), .int .u64 (U d.a4), .int .u64 (U d.a5)]] W fun e w' => ∃ A c, e = .returned (.slice A 64 c) ∧ Below W.heap.size W w' ∧ (convert 28 9 (.slice A 64 c)).run Try.prog w' = .ok (.string (strOfNums (dB d))) w' :=
  (RefBytes.calls d W).mono fun e w' ⟨A, c, he, hr, hb⟩ => ⟨A, c, he, hb, (row_str (dB_length d) hr).2 _ (Below.refl _ _)⟩
set_option maxRecDepth 100000 in
set_option maxHeartbeats 3200000 in
theorem walk (d : Dt) (hd : Dt.small d) (w : World) :
    Calls Try.prog 6 #[.agg #[.int .u32 (U d.nr), .int .u32 (U d.arch), .int .u64 (U d.ip), .int .u64 (U d.a0), .int .u64 (U d.a1), .int .u64 (U d.a2), .int .u64 (U d.a3), .int .u64 (U d.a4), .int .u64 (U d.a5)]] w fun e w' => e = .returned (.bool true) ∧ Below w.heap.size w w' := by
  have HSM := Aside0.mk hd
  clear hd
  have REF := Aside0.mk (fun W => ref_str d W)
  go_enter Try.func6, Try.ntmps6
  go_wp2_with fail
  refine (head_calls _).mono ?_
  rintro e w1 ⟨rfl, hb1⟩
  obtain ⟨BX0, HB0⟩ := box_later hb1
  have HB := Aside0.mk HB0
  have BX := Aside0.mk BX0
  clear hb1 BX0 HB0
  have B1 := Aside0.mk HB.out
  have BB1 := Aside0.mk BX.out
  obtain ⟨c0, c1, c2, c3, c4, c5', c6, c7, c8⟩ := cells_of BX.out
  go_wp2_with fail
  refine (bytes_calls d _).mono ?_
  rintro e w2 ⟨A, cA, rfl, hrA, hb2⟩
  have HB2 := Aside0.mk (below_step HB.out hb2)
  have BX2 := Aside0.mk (blk_below BX.out hb2)
  have RA2 := Aside0.mk hrA
  clear hb2 hrA c0 c1 c2 c3 c4 c5' c6 c7 c8 HB BX
  obtain ⟨c0, c1, c2, c3, c4, c5', c6, c7, c8⟩ := cells_of BX2.out
  go_wp2_with fail
  refine (bytes_calls d _).mono ?_
  rintro e w3 ⟨B, cB, rfl, hrB, hb3⟩
  have HB3 := Aside0.mk (below_step HB2.out hb3)
  have BX3 := Aside0.mk (blk_below BX2.out hb3)
  have RA3 := Aside0.mk (Kd.R_mono (Kd.R_bound (Kd.R_below RA2.out hb3)) (ok' := fun _ => True) (fun _ _ => trivial))
  have RA4 := Aside0.mk (Kd.R_lt RA2.out)
  have RB3 := Aside0.mk (Kd.R_mono (Kd.R_bound hrB) (ok' := fun k => w2.heap.size ≤ k) (fun _ hk => hk.2.1))
  clear hb3 hrB c0 c1 c2 c3 c4 c5' c6 c7 c8 HB2 BX2 RA2
  have CX := Aside0.mk (show ∀ W, Below w3.heap.size w3 W → W.heap[w.heap.size]? = some (.cells #[.int .u32 (U d.nr), .int .u32 (U d.arch), .int .u64 (U d.ip), .int .u64 (U d.a0), .int .u64 (U d.a1), .int .u64 (U d.a2), .int .u64 (U d.a3), .int .u64 (U d.a4), .int .u64 (U d.a5)] 26 (0, 0)) from fun W h => blk_below BX3.out h)
  obtain ⟨c0, c1, c2, c3, c4, c5', c6, c7, c8⟩ := cells_of BX3.out
  have KKA := Aside0.mk (row_str (dB_length d) RA3.out).2
  have L0 : Below w3.heap.size w3 w3.drew := below_drew (Below.refl _ _)
  have kk1 := KKA.out _ L0
  go_wp2_with fail
  refine start_ (n := 7) (S := fun w' => w'.cell? ⟨w.heap.size, 0, none⟩ = some (.int .u32 (U d.nr)) ∧ w'.cell? ⟨w.heap.size, 1, none⟩ = some (.int .u32 (U d.arch)) ∧ w'.cell? ⟨w.heap.size, 2, none⟩ = some (.int .u64 (U d.ip)) ∧ w'.cell? ⟨w.heap.size, 3, none⟩ = some (.int .u64 (U d.a0)) ∧ w'.cell? ⟨w.heap.size, 4, none⟩ = some (.int .u64 (U d.a1)) ∧ w'.cell? ⟨w.heap.size, 5, none⟩ = some (.int .u64 (U d.a2)) ∧ w'.cell? ⟨w.heap.size, 6, none⟩ = some (.int .u64 (U d.a3)) ∧ w'.cell? ⟨w.heap.size, 7, none⟩ = some (.int .u64 (U d.a4)) ∧ w'.cell? ⟨w.heap.size, 8, none⟩ = some (.int .u64 (U d.a5))) (ds := []) #[false, false, false, false, false, false, false] (by kernel_rfl) rfl rfl ⟨((blk_cell (CX.out _ L0) 0).trans rfl), ((blk_cell (CX.out _ L0) 1).trans rfl), ((blk_cell (CX.out _ L0) 2).trans rfl), ((blk_cell (CX.out _ L0) 3).trans rfl), ((blk_cell (CX.out _ L0) 4).trans rfl), ((blk_cell (CX.out _ L0) 5).trans rfl), ((blk_cell (CX.out _ L0) 6).trans rfl), ((blk_cell (CX.out _ L0) 7).trans rfl), ((blk_cell (CX.out _ L0) 8).trans rfl)⟩ (fun hHeld => ?_)
  refine pure_ (i := 0) (N := some 16) (v := ?_) (a' := ?_) #[true, false, false, false, false, false, false] rfl rfl (by kernel_rfl) (fun _ _ _ h => h) (Or.inl ⟨by rfl, ?_⟩) ?_ ?_
  rotate_left
  · intro w'
    go_simp
    with_reducible rfl
  rotate_left
  · simp only [Act.put, List.setIfInBounds_toArray, List.set_cons_zero, List.set_cons_succ, i64_w, i32_w]
    rfl
  refine take_ (i := 2) (N := some 18) (v := ?_) (a' := ?_) #[true, false, true, false, false, false, false] rfl rfl (by kernel_rfl) (fun _ _ _ h => h) (Or.inl ⟨by rfl, ?_⟩) hHeld ?_ ?_
  rotate_left
  · rintro w' ⟨s0, s1, s2, s3, s4, s5, s6, s7, s8⟩
    go_simp
    with_reducible rfl
  rotate_left
  · simp only [Act.put, List.setIfInBounds_toArray, List.set_cons_zero, List.set_cons_succ, i64_w, i32_w]
    rfl
  refine join_ (σ := Option Addr × Nat) 2 #[true, true, true, true, true, false, false] (fun s => [(17, Value.string (strOfNums (dB d))), (19, Value.slice s.1 64 s.2), (20, Value.string (strOfNums (dB d)))]) (fun _ w' => Below w3.heap.size w3 w') ?_ ?_
  rotate_left
  · intro hCont
    refine two_ (i := 1) (j := 3) (Ni := some 17) (Nj := some 19) #[true, true, true, false, false, false, false] #[true, false, true, true, false, false, false] rfl rfl rfl rfl (by kernel_rfl) (by decide) (by decide) (fun K hK => ?_) (fun K hK => ?_)
    · skip
      refine value_ (w1 := ?_) (v := ?_) (by rfl) rfl ?_ ?_
      rotate_left 2
      · go_simp
        constructor
        · rfl
        · rfl
      refine hK.out _ _ ⟨((blk_cell (CX.out _ L0) 0).trans rfl), ((blk_cell (CX.out _ L0) 1).trans rfl), ((blk_cell (CX.out _ L0) 2).trans rfl), ((blk_cell (CX.out _ L0) 3).trans rfl), ((blk_cell (CX.out _ L0) 4).trans rfl), ((blk_cell (CX.out _ L0) 5).trans rfl), ((blk_cell (CX.out _ L0) 6).trans rfl), ((blk_cell (CX.out _ L0) 7).trans rfl), ((blk_cell (CX.out _ L0) 8).trans rfl)⟩ (fun hHeld => ?_)
      clear hK K
      refine norm_ (a' := ?_) ?_ ?_
      rotate_left
      · show Act.put _ (some 17) _ = _
        simp only [Act.put, List.setIfInBounds_toArray, List.set_cons_zero, List.set_cons_succ, i64_w, i32_w]
        rfl
      refine one_ (i := 3) (N := some 19) #[true, true, true, true, false, false, false] rfl rfl (by kernel_rfl) (by decide) (fun K hK => ?_)
      refine goes_ Try.func16 (by kernel_rfl) rfl #[.agg #[.int .u32 (U d.nr), .int .u32 (U d.arch), .int .u64 (U d.ip), .int .u64 (U d.a0), .int .u64 (U d.a1), .int .u64 (U d.a2), .int .u64 (U d.a3), .int .u64 (U d.a4), .int .u64 (U d.a5)]] (by rfl) rfl rfl (by simp only [List.map_toArray, List.map_cons, List.map_nil]; rfl) ?_
      with_reducible refine (REF.out _).mono ?_
      rintro e w5 ⟨A5, c5, rfl, hb5, k5⟩
      refine ⟨_, rfl, ?_⟩
      have L1 := below_step L0 hb5
      have kk2 := KKA.out _ L1
      refine hK.out _ _ ⟨((blk_cell (CX.out _ L1) 0).trans rfl), ((blk_cell (CX.out _ L1) 1).trans rfl), ((blk_cell (CX.out _ L1) 2).trans rfl), ((blk_cell (CX.out _ L1) 3).trans rfl), ((blk_cell (CX.out _ L1) 4).trans rfl), ((blk_cell (CX.out _ L1) 5).trans rfl), ((blk_cell (CX.out _ L1) 6).trans rfl), ((blk_cell (CX.out _ L1) 7).trans rfl), ((blk_cell (CX.out _ L1) 8).trans rfl)⟩ (fun hHeld => ?_)
      clear hK K
      refine norm_ (a' := ?_) ?_ ?_
      rotate_left
      · show Act.put _ (some 19) _ = _
        simp only [Act.put, List.setIfInBounds_toArray, List.set_cons_zero, List.set_cons_succ, i64_w, i32_w]
        rfl
      refine one_ (i := 4) (N := some 20) #[true, true, true, true, true, false, false] rfl rfl (by kernel_rfl) (by decide) (fun K hK => ?_)
      refine value_ (w1 := ?_) (v := ?_) (by rfl) rfl ?_ ?_
      rotate_left 2
      · go_simp
        constructor
        · rfl
        · rfl
      refine hK.out _ _ ⟨((blk_cell (CX.out _ L1) 0).trans rfl), ((blk_cell (CX.out _ L1) 1).trans rfl), ((blk_cell (CX.out _ L1) 2).trans rfl), ((blk_cell (CX.out _ L1) 3).trans rfl), ((blk_cell (CX.out _ L1) 4).trans rfl), ((blk_cell (CX.out _ L1) 5).trans rfl), ((blk_cell (CX.out _ L1) 6).trans rfl), ((blk_cell (CX.out _ L1) 7).trans rfl), ((blk_cell (CX.out _ L1) 8).trans rfl)⟩ (fun hHeld => ?_)
      clear hK K
      refine norm_ (a' := ?_) ?_ ?_
      rotate_left
      · show Act.put _ (some 20) _ = _
        simp only [Act.put, List.setIfInBounds_toArray, List.set_cons_zero, List.set_cons_succ, i64_w, i32_w]
        rfl
      exact norm_ (by simp only [putAll, Act.put, List.setIfInBounds_toArray, List.set_cons_zero, List.set_cons_succ]) (hCont (A5, c5) _ L1)
    · skip
      refine goes_ Try.func16 (by kernel_rfl) rfl #[.agg #[.int .u32 (U d.nr), .int .u32 (U d.arch), .int .u64 (U d.ip), .int .u64 (U d.a0), .int .u64 (U d.a1), .int .u64 (U d.a2), .int .u64 (U d.a3), .int .u64 (U d.a4), .int .u64 (U d.a5)]] (by rfl) rfl rfl (by simp only [List.map_toArray, List.map_cons, List.map_nil]; rfl) ?_
      with_reducible refine (REF.out _).mono ?_
      rintro e w5 ⟨A5, c5, rfl, hb5, k5⟩
      refine ⟨_, rfl, ?_⟩
      have L1 := below_step L0 hb5
      have kk2 := KKA.out _ L1
      refine hK.out _ _ ⟨((blk_cell (CX.out _ L1) 0).trans rfl), ((blk_cell (CX.out _ L1) 1).trans rfl), ((blk_cell (CX.out _ L1) 2).trans rfl), ((blk_cell (CX.out _ L1) 3).trans rfl), ((blk_cell (CX.out _ L1) 4).trans rfl), ((blk_cell (CX.out _ L1) 5).trans rfl), ((blk_cell (CX.out _ L1) 6).trans rfl), ((blk_cell (CX.out _ L1) 7).trans rfl), ((blk_cell (CX.out _ L1) 8).trans rfl)⟩ (fun hHeld => ?_)
      clear hK K
      refine norm_ (a' := ?_) ?_ ?_
      rotate_left
      · show Act.put _ (some 19) _ = _
        simp only [Act.put, List.setIfInBounds_toArray, List.set_cons_zero, List.set_cons_succ, i64_w, i32_w]
        rfl
      refine two_ (i := 1) (j := 4) (Ni := some 17) (Nj := some 20) #[true, true, true, true, false, false, false] #[true, false, true, true, true, false, false] rfl rfl rfl rfl (by kernel_rfl) (by decide) (by decide) (fun K hK => ?_) (fun K hK => ?_)
      · skip
        refine value_ (w1 := ?_) (v := ?_) (by rfl) rfl ?_ ?_
        rotate_left 2
        · go_simp
          constructor
          · rfl
          · rfl
        refine hK.out _ _ ⟨((blk_cell (CX.out _ L1) 0).trans rfl), ((blk_cell (CX.out _ L1) 1).trans rfl), ((blk_cell (CX.out _ L1) 2).trans rfl), ((blk_cell (CX.out _ L1) 3).trans rfl), ((blk_cell (CX.out _ L1) 4).trans rfl), ((blk_cell (CX.out _ L1) 5).trans rfl), ((blk_cell (CX.out _ L1) 6).trans rfl), ((blk_cell (CX.out _ L1) 7).trans rfl), ((blk_cell (CX.out _ L1) 8).trans rfl)⟩ (fun hHeld => ?_)
        clear hK K
        refine norm_ (a' := ?_) ?_ ?_
        rotate_left
        · show Act.put _ (some 17) _ = _
          simp only [Act.put, List.setIfInBounds_toArray, List.set_cons_zero, List.set_cons_succ, i64_w, i32_w]
          rfl
        refine one_ (i := 4) (N := some 20) #[true, true, true, true, true, false, false] rfl rfl (by kernel_rfl) (by decide) (fun K hK => ?_)
        refine value_ (w1 := ?_) (v := ?_) (by rfl) rfl ?_ ?_
        rotate_left 2
        · go_simp
          constructor
          · rfl
          · rfl
        refine hK.out _ _ ⟨((blk_cell (CX.out _ L1) 0).trans rfl), ((blk_cell (CX.out _ L1) 1).trans rfl), ((blk_cell (CX.out _ L1) 2).trans rfl), ((blk_cell (CX.out _ L1) 3).trans rfl), ((blk_cell (CX.out _ L1) 4).trans rfl), ((blk_cell (CX.out _ L1) 5).trans rfl), ((blk_cell (CX.out _ L1) 6).trans rfl), ((blk_cell (CX.out _ L1) 7).trans rfl), ((blk_cell (CX.out _ L1) 8).trans rfl)⟩ (fun hHeld => ?_)
        clear hK K
        refine norm_ (a' := ?_) ?_ ?_
        rotate_left
        · show Act.put _ (some 20) _ = _
          simp only [Act.put, List.setIfInBounds_toArray, List.set_cons_zero, List.set_cons_succ, i64_w, i32_w]
          rfl
        exact norm_ (by simp only [putAll, Act.put, List.setIfInBounds_toArray, List.set_cons_zero, List.set_cons_succ]) (hCont (A5, c5) _ L1)
      · skip
        refine value_ (w1 := ?_) (v := ?_) (by rfl) rfl ?_ ?_
        rotate_left 2
        · go_simp
          constructor
          · rfl
          · rfl
        refine hK.out _ _ ⟨((blk_cell (CX.out _ L1) 0).trans rfl), ((blk_cell (CX.out _ L1) 1).trans rfl), ((blk_cell (CX.out _ L1) 2).trans rfl), ((blk_cell (CX.out _ L1) 3).trans rfl), ((blk_cell (CX.out _ L1) 4).trans rfl), ((blk_cell (CX.out _ L1) 5).trans rfl), ((blk_cell (CX.out _ L1) 6).trans rfl), ((blk_cell (CX.out _ L1) 7).trans rfl), ((blk_cell (CX.out _ L1) 8).trans rfl)⟩ (fun hHeld => ?_)
        clear hK K
        refine norm_ (a' := ?_) ?_ ?_
        rotate_left
        · show Act.put _ (some 20) _ = _
          simp only [Act.put, List.setIfInBounds_toArray, List.set_cons_zero, List.set_cons_succ, i64_w, i32_w]
          rfl
        refine one_ (i := 1) (N := some 17) #[true, true, true, true, true, false, false] rfl rfl (by kernel_rfl) (by decide) (fun K hK => ?_)
        refine value_ (w1 := ?_) (v := ?_) (by rfl) rfl ?_ ?_
        rotate_left 2
        · go_simp
          constructor
          · rfl
          · rfl
        refine hK.out _ _ ⟨((blk_cell (CX.out _ L1) 0).trans rfl), ((blk_cell (CX.out _ L1) 1).trans rfl), ((blk_cell (CX.out _ L1) 2).trans rfl), ((blk_cell (CX.out _ L1) 3).trans rfl), ((blk_cell (CX.out _ L1) 4).trans rfl), ((blk_cell (CX.out _ L1) 5).trans rfl), ((blk_cell (CX.out _ L1) 6).trans rfl), ((blk_cell (CX.out _ L1) 7).trans rfl), ((blk_cell (CX.out _ L1) 8).trans rfl)⟩ (fun hHeld => ?_)
        clear hK K
        refine norm_ (a' := ?_) ?_ ?_
        rotate_left
        · show Act.put _ (some 17) _ = _
          simp only [Act.put, List.setIfInBounds_toArray, List.set_cons_zero, List.set_cons_succ, i64_w, i32_w]
          rfl
        exact norm_ (by simp only [putAll, Act.put, List.setIfInBounds_toArray, List.set_cons_zero, List.set_cons_succ]) (hCont (A5, c5) _ L1)
  rintro ⟨A5, c5⟩ w5 L1
  have hHeld : w5.cell? ⟨w.heap.size, 0, none⟩ = some (.int .u32 (U d.nr)) ∧ w5.cell? ⟨w.heap.size, 1, none⟩ = some (.int .u32 (U d.arch)) ∧ w5.cell? ⟨w.heap.size, 2, none⟩ = some (.int .u64 (U d.ip)) ∧ w5.cell? ⟨w.heap.size, 3, none⟩ = some (.int .u64 (U d.a0)) ∧ w5.cell? ⟨w.heap.size, 4, none⟩ = some (.int .u64 (U d.a1)) ∧ w5.cell? ⟨w.heap.size, 5, none⟩ = some (.int .u64 (U d.a2)) ∧ w5.cell? ⟨w.heap.size, 6, none⟩ = some (.int .u64 (U d.a3)) ∧ w5.cell? ⟨w.heap.size, 7, none⟩ = some (.int .u64 (U d.a4)) ∧ w5.cell? ⟨w.heap.size, 8, none⟩ = some (.int .u64 (U d.a5)) := ⟨((blk_cell (CX.out _ L1) 0).trans rfl), ((blk_cell (CX.out _ L1) 1).trans rfl), ((blk_cell (CX.out _ L1) 2).trans rfl), ((blk_cell (CX.out _ L1) 3).trans rfl), ((blk_cell (CX.out _ L1) 4).trans rfl), ((blk_cell (CX.out _ L1) 5).trans rfl), ((blk_cell (CX.out _ L1) 6).trans rfl), ((blk_cell (CX.out _ L1) 7).trans rfl), ((blk_cell (CX.out _ L1) 8).trans rfl)⟩
  refine norm_ (a' := ?_) ?_ ?_
  rotate_left
  · simp only [putAll, Act.put, List.setIfInBounds_toArray, List.set_cons_zero, List.set_cons_succ]
    rfl
  refine pure_ (i := 5) (N := some 21) (v := ?_) (a' := ?_) #[true, true, true, true, true, true, false] rfl rfl (by kernel_rfl) (fun _ _ _ h => h) (Or.inl ⟨by rfl, ?_⟩) ?_ ?_
  rotate_left
  · intro w'
    go_simp
    with_reducible rfl
  rotate_left
  · simp only [Act.put, List.setIfInBounds_toArray, List.set_cons_zero, List.set_cons_succ, i64_w, i32_w]
    rfl
  refine pure_ (i := 6) (N := some 6) (v := ?_) (a' := ?_) #[true, true, true, true, true, true, true] rfl rfl (by kernel_rfl) (fun _ _ _ h => h) (Or.inl ⟨by rfl, ?_⟩) ?_ ?_
  rotate_left
  · intro w'
    go_simp
    with_reducible rfl
  rotate_left
  · simp only [Act.put, List.setIfInBounds_toArray, List.set_cons_zero, List.set_cons_succ, i64_w, i32_w]
    rfl
  refine done_ (by kernel_rfl) ?_
  have HB5 := Aside0.mk (below_step HB3.out L1)
  have BX5 := Aside0.mk (blk_below BX3.out L1)
  have RA5 := Aside0.mk (Kd.R_below RA3.out L1)
  have RB5 := Aside0.mk (Kd.R_below RB3.out L1)
  obtain ⟨gA, capA, eA, hgA0, hgA, _⟩ := Kd.R_form RA5.out (by rw [dB_length]; omega)
  injection eA with eA1 eA2 eA3
  subst eA1
  have GE := Aside0.mk (show w.heap.size ≤ gA from Nat.le_trans (below_size B1.out) hgA0)
  have NE := Aside0.mk (show w.heap.size ≠ gA from fun h => by have h1 := blk_lt BB1.out; have h2 : w1.heap.size ≤ gA := hgA0; omega)
  have GA := Aside0.mk (show gA < w2.heap.size from RA4.out gA rfl)
  clear L1 L0 hHeld kk1 c0 c1 c2 c3 c4 c5' c6 c7 c8 KKA CX RA3 RB3 BX3 HB3 eA2 eA3 RA4 hgA hgA0 B1 BB1
  go_wp2_with fail
  go_loopw [7] (fun v7 w' => ∃ (i : Nat) (ys : List Int), v7 = .int .i64 i ∧ i ≤ 64 ∧ ys.length = 64 ∧ Aside0 (Kd.R (Kd.int .u8) 5 w' w1.heap.size (fun _ => True) (.slice (some ⟨gA, 0, none⟩) 64 cA) ys) ∧ Aside0 (Kd.R (Kd.int .u8) 5 w' w2.heap.size (fun k => w2.heap.size ≤ k) (.slice B 64 cB) (dB d)) ∧ Aside0 (w'.heap[w.heap.size]? = some (.cells #[.int .u32 (U d.nr), .int .u32 (U d.arch), .int .u64 (U d.ip), .int .u64 (U d.a0), .int .u64 (U d.a1), .int .u64 (U d.a2), .int .u64 (U d.a3), .int .u64 (U d.a4), .int .u64 (U d.a5)] 26 (0, 0))) ∧ Aside0 (Below w.heap.size w w')) (fun v7 _ => 64 - (intOf v7).toNat)
  case atStart => exact ⟨0, dB d, rfl, by omega, dB_length d, RA5, RB5, BX5, HB5⟩
  case round =>
    clear RA5 RB5 BX5 HB5
    obtain ⟨i, ys, rfl, hi, hy, RA, RB, BX, HB⟩ := hrel
    have HY := Aside0.mk hy
    clear hy
    by_cases hlt : i < 64
    · obtain ⟨hcell, hfz⟩ := Kd.R_celln 0 RA.out (i : Int) (by omega) (by omega)
      rw [Int.toNat_natCast] at hcell hfz
      generalize hxv : rdOf 0 ys (i : Int) = xv at hcell
      clear hxv
      have q0 : (0 : Int) ≤ (i : Int) := by omega
      have q1 : (i : Int) < 64 := by omega
      have RA6 := Kd.R_putn RA.out (i : Int) ((xv + 1) % 256)
      rw [Int.toNat_natCast] at RA6
      have RA7 := Aside0.mk RA6
      have RB7 := Aside0.mk (Kd.R_far RB.out (p := ⟨gA, i, none⟩) (fun k hk e => by have h1 := GA.out; have h2 : k = gA := e; have h3 : w2.heap.size ≤ k := hk; omega) (.int .u8 ((xv + 1) % 256)))
      have BX7 := Aside0.mk (blk_far BX.out (p := ⟨gA, i, none⟩) (NE.out) (.int .u8 ((xv + 1) % 256)))
      have HB7 := Aside0.mk (below_set (j := i) (v := .int .u8 ((xv + 1) % 256)) HB.out GE.out)
      clear RA6 RA RB BX HB
      go_wp2
      exact ⟨⟨i + 1, ys.set i ((xv + 1) % 256), by go_num, by omega, by rw [List.length_set]; exact HY.out, RA7, RB7, BX7, HB7⟩, by simp [intOf]; omega⟩
    · obtain rfl : i = 64 := by omega
      clear RA HY
      have CX := Aside0.mk (show ∀ W, Below wr.heap.size wr W → W.heap[w.heap.size]? = some (.cells #[.int .u32 (U d.nr), .int .u32 (U d.arch), .int .u64 (U d.ip), .int .u64 (U d.a0), .int .u64 (U d.a1), .int .u64 (U d.a2), .int .u64 (U d.a3), .int .u64 (U d.a4), .int .u64 (U d.a5)] 26 (0, 0)) from fun W h => blk_below BX.out h)
      obtain ⟨c0, c1, c2, c3, c4, c5', c6, c7, c8⟩ := cells_of BX.out
      have KKB := Aside0.mk (row_str (dB_length d) RB.out).2
      have L0 : Below wr.heap.size wr wr.drew := below_drew (Below.refl _ _)
      have kk1 := KKB.out _ L0
      go_wp2_with fail
      refine start_ (n := 7) (S := fun w' => w'.cell? ⟨w.heap.size, 0, none⟩ = some (.int .u32 (U d.nr)) ∧ w'.cell? ⟨w.heap.size, 1, none⟩ = some (.int .u32 (U d.arch)) ∧ w'.cell? ⟨w.heap.size, 2, none⟩ = some (.int .u64 (U d.ip)) ∧ w'.cell? ⟨w.heap.size, 3, none⟩ = some (.int .u64 (U d.a0)) ∧ w'.cell? ⟨w.heap.size, 4, none⟩ = some (.int .u64 (U d.a1)) ∧ w'.cell? ⟨w.heap.size, 5, none⟩ = some (.int .u64 (U d.a2)) ∧ w'.cell? ⟨w.heap.size, 6, none⟩ = some (.int .u64 (U d.a3)) ∧ w'.cell? ⟨w.heap.size, 7, none⟩ = some (.int .u64 (U d.a4)) ∧ w'.cell? ⟨w.heap.size, 8, none⟩ = some (.int .u64 (U d.a5))) (ds := []) #[false, false, false, false, false, false, false] (by kernel_rfl) rfl rfl ⟨((blk_cell (CX.out _ L0) 0).trans rfl), ((blk_cell (CX.out _ L0) 1).trans rfl), ((blk_cell (CX.out _ L0) 2).trans rfl), ((blk_cell (CX.out _ L0) 3).trans rfl), ((blk_cell (CX.out _ L0) 4).trans rfl), ((blk_cell (CX.out _ L0) 5).trans rfl), ((blk_cell (CX.out _ L0) 6).trans rfl), ((blk_cell (CX.out _ L0) 7).trans rfl), ((blk_cell (CX.out _ L0) 8).trans rfl)⟩ (fun hHeld => ?_)
      refine pure_ (i := 0) (N := some 34) (v := ?_) (a' := ?_) #[true, false, false, false, false, false, false] rfl rfl (by kernel_rfl) (fun _ _ _ h => h) (Or.inl ⟨by rfl, ?_⟩) ?_ ?_
      rotate_left
      · intro w'
        go_simp
        with_reducible rfl
      rotate_left
      · simp only [Act.put, List.setIfInBounds_toArray, List.set_cons_zero, List.set_cons_succ, i64_w, i32_w]
        rfl
      refine take_ (i := 2) (N := some 36) (v := ?_) (a' := ?_) #[true, false, true, false, false, false, false] rfl rfl (by kernel_rfl) (fun _ _ _ h => h) (Or.inl ⟨by rfl, ?_⟩) hHeld ?_ ?_
      rotate_left
      · rintro w' ⟨s0, s1, s2, s3, s4, s5, s6, s7, s8⟩
        go_simp
        with_reducible rfl
      rotate_left
      · simp only [Act.put, List.setIfInBounds_toArray, List.set_cons_zero, List.set_cons_succ, i64_w, i32_w]
        rfl
      refine join_ (σ := Option Addr × Nat) 2 #[true, true, true, true, true, false, false] (fun s => [(35, Value.string (strOfNums (dB d))), (37, Value.slice s.1 64 s.2), (38, Value.string (strOfNums (dB d)))]) (fun _ w' => Below wr.heap.size wr w') ?_ ?_
      rotate_left
      · intro hCont
        refine two_ (i := 1) (j := 3) (Ni := some 35) (Nj := some 37) #[true, true, true, false, false, false, false] #[true, false, true, true, false, false, false] rfl rfl rfl rfl (by kernel_rfl) (by decide) (by decide) (fun K hK => ?_) (fun K hK => ?_)
        · skip
          refine value_ (w1 := ?_) (v := ?_) (by rfl) rfl ?_ ?_
          rotate_left 2
          · go_simp
            constructor
            · rfl
            · rfl
          refine hK.out _ _ ⟨((blk_cell (CX.out _ L0) 0).trans rfl), ((blk_cell (CX.out _ L0) 1).trans rfl), ((blk_cell (CX.out _ L0) 2).trans rfl), ((blk_cell (CX.out _ L0) 3).trans rfl), ((blk_cell (CX.out _ L0) 4).trans rfl), ((blk_cell (CX.out _ L0) 5).trans rfl), ((blk_cell (CX.out _ L0) 6).trans rfl), ((blk_cell (CX.out _ L0) 7).trans rfl), ((blk_cell (CX.out _ L0) 8).trans rfl)⟩ (fun hHeld => ?_)
          clear hK K
          refine norm_ (a' := ?_) ?_ ?_
          rotate_left
          · show Act.put _ (some 35) _ = _
            simp only [Act.put, List.setIfInBounds_toArray, List.set_cons_zero, List.set_cons_succ, i64_w, i32_w]
            rfl
          refine one_ (i := 3) (N := some 37) #[true, true, true, true, false, false, false] rfl rfl (by kernel_rfl) (by decide) (fun K hK => ?_)
          refine goes_ Try.func16 (by kernel_rfl) rfl #[.agg #[.int .u32 (U d.nr), .int .u32 (U d.arch), .int .u64 (U d.ip), .int .u64 (U d.a0), .int .u64 (U d.a1), .int .u64 (U d.a2), .int .u64 (U d.a3), .int .u64 (U d.a4), .int .u64 (U d.a5)]] (by rfl) rfl rfl (by simp only [List.map_toArray, List.map_cons, List.map_nil]; rfl) ?_
          with_reducible refine (REF.out _).mono ?_
          rintro e w9 ⟨A9, c9, rfl, hb9, k9⟩
          refine ⟨_, rfl, ?_⟩
          have L1 := below_step L0 hb9
          have kk2 := KKB.out _ L1
          refine hK.out _ _ ⟨((blk_cell (CX.out _ L1) 0).trans rfl), ((blk_cell (CX.out _ L1) 1).trans rfl), ((blk_cell (CX.out _ L1) 2).trans rfl), ((blk_cell (CX.out _ L1) 3).trans rfl), ((blk_cell (CX.out _ L1) 4).trans rfl), ((blk_cell (CX.out _ L1) 5).trans rfl), ((blk_cell (CX.out _ L1) 6).trans rfl), ((blk_cell (CX.out _ L1) 7).trans rfl), ((blk_cell (CX.out _ L1) 8).trans rfl)⟩ (fun hHeld => ?_)
          clear hK K
          refine norm_ (a' := ?_) ?_ ?_
          rotate_left
          · show Act.put _ (some 37) _ = _
            simp only [Act.put, List.setIfInBounds_toArray, List.set_cons_zero, List.set_cons_succ, i64_w, i32_w]
            rfl
          refine one_ (i := 4) (N := some 38) #[true, true, true, true, true, false, false] rfl rfl (by kernel_rfl) (by decide) (fun K hK => ?_)
          refine value_ (w1 := ?_) (v := ?_) (by rfl) rfl ?_ ?_
          rotate_left 2
          · go_simp
            constructor
            · rfl
            · rfl
          refine hK.out _ _ ⟨((blk_cell (CX.out _ L1) 0).trans rfl), ((blk_cell (CX.out _ L1) 1).trans rfl), ((blk_cell (CX.out _ L1) 2).trans rfl), ((blk_cell (CX.out _ L1) 3).trans rfl), ((blk_cell (CX.out _ L1) 4).trans rfl), ((blk_cell (CX.out _ L1) 5).trans rfl), ((blk_cell (CX.out _ L1) 6).trans rfl), ((blk_cell (CX.out _ L1) 7).trans rfl), ((blk_cell (CX.out _ L1) 8).trans rfl)⟩ (fun hHeld => ?_)
          clear hK K
          refine norm_ (a' := ?_) ?_ ?_
          rotate_left
          · show Act.put _ (some 38) _ = _
            simp only [Act.put, List.setIfInBounds_toArray, List.set_cons_zero, List.set_cons_succ, i64_w, i32_w]
            rfl
          exact norm_ (by simp only [putAll, Act.put, List.setIfInBounds_toArray, List.set_cons_zero, List.set_cons_succ]) (hCont (A9, c9) _ L1)
        · skip
          refine goes_ Try.func16 (by kernel_rfl) rfl #[.agg #[.int .u32 (U d.nr), .int .u32 (U d.arch), .int .u64 (U d.ip), .int .u64 (U d.a0), .int .u64 (U d.a1), .int .u64 (U d.a2), .int .u64 (U d.a3), .int .u64 (U d.a4), .int .u64 (U d.a5)]] (by rfl) rfl rfl (by simp only [List.map_toArray, List.map_cons, List.map_nil]; rfl) ?_
          with_reducible refine (REF.out _).mono ?_
          rintro e w9 ⟨A9, c9, rfl, hb9, k9⟩
          refine ⟨_, rfl, ?_⟩
          have L1 := below_step L0 hb9
          have kk2 := KKB.out _ L1
          refine hK.out _ _ ⟨((blk_cell (CX.out _ L1) 0).trans rfl), ((blk_cell (CX.out _ L1) 1).trans rfl), ((blk_cell (CX.out _ L1) 2).trans rfl), ((blk_cell (CX.out _ L1) 3).trans rfl), ((blk_cell (CX.out _ L1) 4).trans rfl), ((blk_cell (CX.out _ L1) 5).trans rfl), ((blk_cell (CX.out _ L1) 6).trans rfl), ((blk_cell (CX.out _ L1) 7).trans rfl), ((blk_cell (CX.out _ L1) 8).trans rfl)⟩ (fun hHeld => ?_)
          clear hK K
          refine norm_ (a' := ?_) ?_ ?_
          rotate_left
          · show Act.put _ (some 37) _ = _
            simp only [Act.put, List.setIfInBounds_toArray, List.set_cons_zero, List.set_cons_succ, i64_w, i32_w]
            rfl
          refine two_ (i := 1) (j := 4) (Ni := some 35) (Nj := some 38) #[true, true, true, true, false, false, false] #[true, false, true, true, true, false, false] rfl rfl rfl rfl (by kernel_rfl) (by decide) (by decide) (fun K hK => ?_) (fun K hK => ?_)
          · skip
            refine value_ (w1 := ?_) (v := ?_) (by rfl) rfl ?_ ?_
            rotate_left 2
            · go_simp
              constructor
              · rfl
              · rfl
            refine hK.out _ _ ⟨((blk_cell (CX.out _ L1) 0).trans rfl), ((blk_cell (CX.out _ L1) 1).trans rfl), ((blk_cell (CX.out _ L1) 2).trans rfl), ((blk_cell (CX.out _ L1) 3).trans rfl), ((blk_cell (CX.out _ L1) 4).trans rfl), ((blk_cell (CX.out _ L1) 5).trans rfl), ((blk_cell (CX.out _ L1) 6).trans rfl), ((blk_cell (CX.out _ L1) 7).trans rfl), ((blk_cell (CX.out _ L1) 8).trans rfl)⟩ (fun hHeld => ?_)
            clear hK K
            refine norm_ (a' := ?_) ?_ ?_
            rotate_left
            · show Act.put _ (some 35) _ = _
              simp only [Act.put, List.setIfInBounds_toArray, List.set_cons_zero, List.set_cons_succ, i64_w, i32_w]
              rfl
            refine one_ (i := 4) (N := some 38) #[true, true, true, true, true, false, false] rfl rfl (by kernel_rfl) (by decide) (fun K hK => ?_)
            refine value_ (w1 := ?_) (v := ?_) (by rfl) rfl ?_ ?_
            rotate_left 2
            · go_simp
              constructor
              · rfl
              · rfl
            refine hK.out _ _ ⟨((blk_cell (CX.out _ L1) 0).trans rfl), ((blk_cell (CX.out _ L1) 1).trans rfl), ((blk_cell (CX.out _ L1) 2).trans rfl), ((blk_cell (CX.out _ L1) 3).trans rfl), ((blk_cell (CX.out _ L1) 4).trans rfl), ((blk_cell (CX.out _ L1) 5).trans rfl), ((blk_cell (CX.out _ L1) 6).trans rfl), ((blk_cell (CX.out _ L1) 7).trans rfl), ((blk_cell (CX.out _ L1) 8).trans rfl)⟩ (fun hHeld => ?_)
            clear hK K
            refine norm_ (a' := ?_) ?_ ?_
            rotate_left
            · show Act.put _ (some 38) _ = _
              simp only [Act.put, List.setIfInBounds_toArray, List.set_cons_zero, List.set_cons_succ, i64_w, i32_w]
              rfl
            exact norm_ (by simp only [putAll, Act.put, List.setIfInBounds_toArray, List.set_cons_zero, List.set_cons_succ]) (hCont (A9, c9) _ L1)
          · skip
            refine value_ (w1 := ?_) (v := ?_) (by rfl) rfl ?_ ?_
            rotate_left 2
            · go_simp
              constructor
              · rfl
              · rfl
            refine hK.out _ _ ⟨((blk_cell (CX.out _ L1) 0).trans rfl), ((blk_cell (CX.out _ L1) 1).trans rfl), ((blk_cell (CX.out _ L1) 2).trans rfl), ((blk_cell (CX.out _ L1) 3).trans rfl), ((blk_cell (CX.out _ L1) 4).trans rfl), ((blk_cell (CX.out _ L1) 5).trans rfl), ((blk_cell (CX.out _ L1) 6).trans rfl), ((blk_cell (CX.out _ L1) 7).trans rfl), ((blk_cell (CX.out _ L1) 8).trans rfl)⟩ (fun hHeld => ?_)
            clear hK K
            refine norm_ (a' := ?_) ?_ ?_
            rotate_left
            · show Act.put _ (some 38) _ = _
              simp only [Act.put, List.setIfInBounds_toArray, List.set_cons_zero, List.set_cons_succ, i64_w, i32_w]
              rfl
            refine one_ (i := 1) (N := some 35) #[true, true, true, true, true, false, false] rfl rfl (by kernel_rfl) (by decide) (fun K hK => ?_)
            refine value_ (w1 := ?_) (v := ?_) (by rfl) rfl ?_ ?_
            rotate_left 2
            · go_simp
              constructor
              · rfl
              · rfl
            refine hK.out _ _ ⟨((blk_cell (CX.out _ L1) 0).trans rfl), ((blk_cell (CX.out _ L1) 1).trans rfl), ((blk_cell (CX.out _ L1) 2).trans rfl), ((blk_cell (CX.out _ L1) 3).trans rfl), ((blk_cell (CX.out _ L1) 4).trans rfl), ((blk_cell (CX.out _ L1) 5).trans rfl), ((blk_cell (CX.out _ L1) 6).trans rfl), ((blk_cell (CX.out _ L1) 7).trans rfl), ((blk_cell (CX.out _ L1) 8).trans rfl)⟩ (fun hHeld => ?_)
            clear hK K
            refine norm_ (a' := ?_) ?_ ?_
            rotate_left
            · show Act.put _ (some 35) _ = _
              simp only [Act.put, List.setIfInBounds_toArray, List.set_cons_zero, List.set_cons_succ, i64_w, i32_w]
              rfl
            exact norm_ (by simp only [putAll, Act.put, List.setIfInBounds_toArray, List.set_cons_zero, List.set_cons_succ]) (hCont (A9, c9) _ L1)
      rintro ⟨A9, c9⟩ w9 L1
      have hHeld : w9.cell? ⟨w.heap.size, 0, none⟩ = some (.int .u32 (U d.nr)) ∧ w9.cell? ⟨w.heap.size, 1, none⟩ = some (.int .u32 (U d.arch)) ∧ w9.cell? ⟨w.heap.size, 2, none⟩ = some (.int .u64 (U d.ip)) ∧ w9.cell? ⟨w.heap.size, 3, none⟩ = some (.int .u64 (U d.a0)) ∧ w9.cell? ⟨w.heap.size, 4, none⟩ = some (.int .u64 (U d.a1)) ∧ w9.cell? ⟨w.heap.size, 5, none⟩ = some (.int .u64 (U d.a2)) ∧ w9.cell? ⟨w.heap.size, 6, none⟩ = some (.int .u64 (U d.a3)) ∧ w9.cell? ⟨w.heap.size, 7, none⟩ = some (.int .u64 (U d.a4)) ∧ w9.cell? ⟨w.heap.size, 8, none⟩ = some (.int .u64 (U d.a5)) := ⟨((blk_cell (CX.out _ L1) 0).trans rfl), ((blk_cell (CX.out _ L1) 1).trans rfl), ((blk_cell (CX.out _ L1) 2).trans rfl), ((blk_cell (CX.out _ L1) 3).trans rfl), ((blk_cell (CX.out _ L1) 4).trans rfl), ((blk_cell (CX.out _ L1) 5).trans rfl), ((blk_cell (CX.out _ L1) 6).trans rfl), ((blk_cell (CX.out _ L1) 7).trans rfl), ((blk_cell (CX.out _ L1) 8).trans rfl)⟩
      refine norm_ (a' := ?_) ?_ ?_
      rotate_left
      · simp only [putAll, Act.put, List.setIfInBounds_toArray, List.set_cons_zero, List.set_cons_succ]
        rfl
      refine pure_ (i := 5) (N := some 39) (v := ?_) (a' := ?_) #[true, true, true, true, true, true, false] rfl rfl (by kernel_rfl) (fun _ _ _ h => h) (Or.inl ⟨by rfl, ?_⟩) ?_ ?_
      rotate_left
      · intro w'
        go_simp
        with_reducible rfl
      rotate_left
      · simp only [Act.put, List.setIfInBounds_toArray, List.set_cons_zero, List.set_cons_succ, i64_w, i32_w]
        rfl
      refine pure_ (i := 6) (N := some 8) (v := ?_) (a' := ?_) #[true, true, true, true, true, true, true] rfl rfl (by kernel_rfl) (fun _ _ _ h => h) (Or.inl ⟨by rfl, ?_⟩) ?_ ?_
      rotate_left
      · intro w'
        go_simp
        with_reducible rfl
      rotate_left
      · simp only [Act.put, List.setIfInBounds_toArray, List.set_cons_zero, List.set_cons_succ, i64_w, i32_w]
        rfl
      refine done_ (by kernel_rfl) ?_
      have HB9 := Aside0.mk (below_step HB.out L1)
      have BX9 := Aside0.mk (blk_below BX.out L1)
      have hC := Kd.C_below (row_str (dB_length d) RB.out).1 L1
      have RD := Read.yes B cB (dB d) (dB_bytes d) (dB_length d) w9
      have hCB := (Kd.R_reads' RB.out).2.1
      rw [dB_length, Dat2.dOf_dB d HSM.out] at RD
      have RD2 := Aside0.mk (RD hC hCB)
      clear L1 L0 hHeld kk1 c0 c1 c2 c3 c4 c5' c6 c7 c8 KKB CX RB BX HB RD hC hCB
      go_wp2_with fail
      refine RD2.out.mono ?_
      rintro e w10 ⟨rfl, hb10⟩
      have HB10 := Aside0.mk (below_alloc (below_step HB9.out hb10) (.cells #[.int .u32 (U d.nr), .int .u32 (U d.arch), .int .u64 (U d.ip), .int .u64 (U d.a0), .int .u64 (U d.a1), .int .u64 (U d.a2), .int .u64 (U d.a3), .int .u64 (U d.a4), .int .u64 (U d.a5)] 26))
      have BX10 := Aside0.mk (blk_alloc (blk_below BX9.out hb10) (.cells #[.int .u32 (U d.nr), .int .u32 (U d.arch), .int .u64 (U d.ip), .int .u64 (U d.a0), .int .u64 (U d.a1), .int .u64 (U d.a2), .int .u64 (U d.a3), .int .u64 (U d.a4), .int .u64 (U d.a5)] 26))
      have BN := Aside0.mk (blk_new w10 (.cells #[.int .u32 (U d.nr), .int .u32 (U d.arch), .int .u64 (U d.ip), .int .u64 (U d.a0), .int .u64 (U d.a1), .int .u64 (U d.a2), .int .u64 (U d.a3), .int .u64 (U d.a4), .int .u64 (U d.a5)] 26))
      clear HB9 BX9 hb10 RD2
      obtain ⟨c0, c1, c2, c3, c4, c5', c6, c7, c8⟩ := cells_of BX10.out
      obtain ⟨n0, n1, n2, n3, n4, n5, n6, n7, n8⟩ := cells_of BN.out
      have heq : ∀ W, (Op.equalIn 10000 26 (.agg #[.int .u32 (U d.nr), .int .u32 (U d.arch), .int .u64 (U d.ip), .int .u64 (U d.a0), .int .u64 (U d.a1), .int .u64 (U d.a2), .int .u64 (U d.a3), .int .u64 (U d.a4), .int .u64 (U d.a5)]) (.agg #[.int .u32 (U d.nr), .int .u32 (U d.arch), .int .u64 (U d.ip), .int .u64 (U d.a0), .int .u64 (U d.a1), .int .u64 (U d.a2), .int .u64 (U d.a3), .int .u64 (U d.a4), .int .u64 (U d.a5)])).run Try.prog W = .ok (eqB d d) W := fun W => eq_data d d HSM.out HSM.out W
      rw [show eqB d d = true from (eqB_iff d d).2 rfl] at heq
      clear BX10 BN
      go_wp2
      go_ret
      exact ⟨rfl, HB10.out⟩
end Go.Proofs.Ytplplillpjnnnaa.BytesWalk
