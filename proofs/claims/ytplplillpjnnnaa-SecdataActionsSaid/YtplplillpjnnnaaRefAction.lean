/- The walk of the document's Action: the action of a word. Conditions: the word has 32 bits. -/
import Derived.Test.YtplplillpjnnnaaCommon
import Derived.Test.YtplplillpjnnnaaFactsC
namespace Go.Proofs.Ytplplillpjnnnaa.RefAction
open Go.RowKit Go.Proofs.Ytplplillpjnnnaa.PSecdataActions Go.Proofs.Ytplplillpjnnnaa.FactsC Go.Proofs.Ytplplillpjnnnaa.Common Go.Proofs.YtplplillpjnnnaaW.PrintWords Go.Proofs.YtplplillpjnnnaaW.PrintLast Go.Proofs.YtplplillpjnnnaaW.PrintMore
set_option linter.unusedVariables false
set_option linter.unusedSimpArgs false

def dk (w : Int) (k : Int) : Int := if num k = true then w % 65536 else 0
def hit (w : Int) (k : Int) : Prop := codeW k (dk w k) = w
theorem code_dk (w k : Int) (h1 : 1 ≤ k) (h2 : k ≤ 8) : codeW k (dk w k) = (baseM k : Int) * 65536 + dk w k ∧ codeE k (dk w k) = 0 := by
  have hk : isK k = true := by unfold isK; rw [decide_eq_true_eq]; omega
  have hn : num k = true ∨ dk w k = 0 := by
    unfold dk
    cases num k <;> simp
  unfold codeW codeE
  rw [if_pos ⟨hk, hn⟩, if_pos ⟨hk, hn⟩]
  exact ⟨rfl, rfl⟩
theorem hits (w : Int) : (hit w 1 ↔ w = 2147483648) ∧ (hit w 2 ↔ w = 0) ∧ (hit w 3 ↔ w / 65536 = 3) ∧ (hit w 4 ↔ w / 65536 = 5) ∧ (hit w 5 ↔ w = 2143289344) ∧ (hit w 6 ↔ w / 65536 = 32752) ∧ (hit w 7 ↔ w = 2147221504) ∧ (hit w 8 ↔ w = 2147418112) := by
  unfold hit
  rw [(code_dk w 1 (by omega) (by omega)).1, (code_dk w 2 (by omega) (by omega)).1, (code_dk w 3 (by omega) (by omega)).1, (code_dk w 4 (by omega) (by omega)).1, (code_dk w 5 (by omega) (by omega)).1, (code_dk w 6 (by omega) (by omega)).1, (code_dk w 7 (by omega) (by omega)).1, (code_dk w 8 (by omega) (by omega)).1]
  simp only [dk, num, baseM]
  refine ⟨?_, ?_, ?_, ?_, ?_, ?_, ?_, ?_⟩ <;> simp <;> omega
theorem act_hit (w : Int) (k : Nat) (h1 : 1 ≤ k) (h2 : k ≤ 8) (h : hit w k) (hn : ∀ j : Nat, 1 ≤ j → j < k → ¬ hit w j) : act w = ((k : Int), dk w k, 0) := by
  obtain ⟨e1, e2, e3, e4, e5, e6, e7, e8⟩ := hits w
  have n1 := fun g => hn 1 (by omega) g
  have n2 := fun g => hn 2 (by omega) g
  have n3 := fun g => hn 3 (by omega) g
  have n4 := fun g => hn 4 (by omega) g
  have n5 := fun g => hn 5 (by omega) g
  have n6 := fun g => hn 6 (by omega) g
  have n7 := fun g => hn 7 (by omega) g
  have hk : k = 1 ∨ k = 2 ∨ k = 3 ∨ k = 4 ∨ k = 5 ∨ k = 6 ∨ k = 7 ∨ k = 8 := by omega
  clear hn
  unfold act
  rcases hk with rfl | rfl | rfl | rfl | rfl | rfl | rfl | rfl
  · rw [if_pos (e1.1 h)]; rfl
  · rw [if_neg (fun x => n1 (by omega) (e1.2 x)), if_pos (e2.1 h)]; rfl
  · rw [if_neg (fun x => n1 (by omega) (e1.2 x)), if_neg (fun x => n2 (by omega) (e2.2 x)), if_pos (e3.1 h)]; rfl
  · rw [if_neg (fun x => n1 (by omega) (e1.2 x)), if_neg (fun x => n2 (by omega) (e2.2 x)), if_neg (fun x => n3 (by omega) (e3.2 x)), if_pos (e4.1 h)]; rfl
  · rw [if_neg (fun x => n1 (by omega) (e1.2 x)), if_neg (fun x => n2 (by omega) (e2.2 x)), if_neg (fun x => n3 (by omega) (e3.2 x)), if_neg (fun x => n4 (by omega) (e4.2 x)), if_pos (e5.1 h)]; rfl
  · rw [if_neg (fun x => n1 (by omega) (e1.2 x)), if_neg (fun x => n2 (by omega) (e2.2 x)), if_neg (fun x => n3 (by omega) (e3.2 x)), if_neg (fun x => n4 (by omega) (e4.2 x)), if_neg (fun x => n5 (by omega) (e5.2 x)), if_pos (e6.1 h)]; rfl
  · rw [if_neg (fun x => n1 (by omega) (e1.2 x)), if_neg (fun x => n2 (by omega) (e2.2 x)), if_neg (fun x => n3 (by omega) (e3.2 x)), if_neg (fun x => n4 (by omega) (e4.2 x)), if_neg (fun x => n5 (by omega) (e5.2 x)), if_neg (fun x => n6 (by omega) (e6.2 x)), if_pos (e7.1 h)]; rfl
  · rw [if_neg (fun x => n1 (by omega) (e1.2 x)), if_neg (fun x => n2 (by omega) (e2.2 x)), if_neg (fun x => n3 (by omega) (e3.2 x)), if_neg (fun x => n4 (by omega) (e4.2 x)), if_neg (fun x => n5 (by omega) (e5.2 x)), if_neg (fun x => n6 (by omega) (e6.2 x)), if_neg (fun x => n7 (by omega) (e7.2 x)), if_pos (e8.1 h)]; rfl
theorem act_miss (w : Int) (hn : ∀ j : Nat, 1 ≤ j → j < 9 → ¬ hit w j) : act w = (0, 0, 23) := by
  obtain ⟨e1, e2, e3, e4, e5, e6, e7, e8⟩ := hits w
  have n1 := hn 1 (by omega) (by omega)
  have n2 := hn 2 (by omega) (by omega)
  have n3 := hn 3 (by omega) (by omega)
  have n4 := hn 4 (by omega) (by omega)
  have n5 := hn 5 (by omega) (by omega)
  have n6 := hn 6 (by omega) (by omega)
  have n7 := hn 7 (by omega) (by omega)
  have n8 := hn 8 (by omega) (by omega)
  unfold act
  rw [if_neg (fun x => n1 (e1.2 x)), if_neg (fun x => n2 (e2.2 x)), if_neg (fun x => n3 (e3.2 x)), if_neg (fun x => n4 (e4.2 x)), if_neg (fun x => n5 (e5.2 x)), if_neg (fun x => n6 (e6.2 x)), if_neg (fun x => n7 (e7.2 x)), if_neg (fun x => n8 (e8.2 x))]
/-- An action with no error is the word's: it is written as the same word. -/
theorem act_back (w : Int) (he : (act w).2.2 = 0) : codeW (act w).1 (act w).2.1 = w ∧ codeE (act w).1 (act w).2.1 = 0 ∧ 0 ≤ (act w).2.1 ∧ (act w).2.1 < 65536 := by
  by_cases hh : ∃ k : Nat, 1 ≤ k ∧ k ≤ 8 ∧ hit w k ∧ ∀ j : Nat, 1 ≤ j → j < k → ¬ hit w j
  · obtain ⟨k, h1, h2, h, hn⟩ := hh
    rw [act_hit w k h1 h2 h hn]
    refine ⟨h, (code_dk w k (by omega) (by omega)).2, ?_, ?_⟩
    · show 0 ≤ dk w k
      unfold dk; split <;> omega
    · show dk w k < 65536
      unfold dk; split <;> omega
  · have hm : ∀ k : Nat, ∀ j : Nat, 1 ≤ j → j < k → k ≤ 9 → ¬ hit w j := by
      intro k
      induction k with
      | zero => intro j _ h _; omega
      | succ k ih =>
        intro j h1 h2 h3 h
        by_cases hj : j < k
        · exact ih j h1 hj (by omega) h
        · obtain rfl : j = k := by omega
          exact hh ⟨j, h1, by omega, h, fun i a b => ih i a b (by omega)⟩
    rw [act_miss w (fun j h1 h2 => hm 9 j h1 h2 (by omega))] at he
    cases he
set_option maxRecDepth 100000 in
set_option maxHeartbeats 1600000 in
theorem walk (a : Int) (h0 : 0 ≤ a) (h1 : a < 4294967296) (w : World) :
    Calls Try.prog 15 #[.int .u32 a] w fun e w' => e = .returned (.tuple #[.agg #[.int .i64 (act a).1, .int .u16 (act a).2.1], .int .i64 (act a).2.2]) ∧ Below w.heap.size w w' := by
  have HB := Aside0.mk (below_alloc (Below.refl w.heap.size w) (.cells #[.int .i64 0, .int .u16 0] 38))
  have HG := Aside0.mk (blk_new w (.cells #[.int .i64 0, .int .u16 0] 38))
  have H0 := Aside0.mk h0
  have H1 := Aside0.mk h1
  clear h0 h1
  go_enter Try.func15, Try.ntmps15
  go_wp2_with fail
  go_loopw [4] (fun v4 w' => ∃ k : Nat, v4 = .int .i64 k ∧ 1 ≤ k ∧ k ≤ 9 ∧ Aside0 (∀ j : Nat, 1 ≤ j → j < k → ¬ hit a j) ∧ Aside0 (w'.heap[w.heap.size]? = some (.cells #[.int .i64 0, .int .u16 0] 38 (0, 0))) ∧ Aside0 (Below w.heap.size w w')) (fun v4 _ => 9 - (intOf v4).toNat)
  case atStart => exact ⟨1, rfl, by omega, by omega, Aside0.mk (by omega), HG, HB⟩
  case round =>
    clear HB HG
    obtain ⟨k, rfl, k1, k9, HN, HG, HB⟩ := hrel
    by_cases hle : k < 9
    · obtain ⟨C1, C2⟩ := code_dk a k (by omega) (by omega)
      have HC := Aside0.mk (refCode_eq k (dk a k) (by unfold dk; split <;> omega) (by unfold dk; split <;> omega))
      rw [C2] at HC
      have HY := Aside0.mk (fun h => act_hit a k k1 (by omega) h HN.out)
      clear C1 C2
      obtain ⟨cw, hcw⟩ : ∃ cw, codeW k (dk a k) = cw := ⟨_, rfl⟩
      have HH := Aside0.mk (show hit a k ↔ cw = a by rw [← hcw]; exact Iff.rfl)
      rw [hcw] at HC
      clear hcw
      have HD := Aside0.mk (base_eq k)
      rw [show isK k = true by unfold isK; rw [decide_eq_true_eq]; omega] at HD
      rw [if_pos rfl, Bool.true_and] at HD
      have EU := FactsC.u16 a
      have q1 : (k : Int) ≤ 8 := by omega
      go_wp2_with fail
      refine (ravelinref02_base.calls k _ _ _ _ HD.out).mono ?_
      rintro e w5 ⟨rfl, hb5'⟩
      have hb5 := hb5'.below
      clear hb5'
      have HG5 := Aside0.mk (blk_below (blk_alloc HG.out _) hb5)
      have HZ5 := Aside0.mk (blk_below (blk_new wr (.cells #[.int .i64 k, .int .u16 (a % 65536)] 38)) hb5)
      have HB5 := Aside0.mk (below_step (below_alloc HB.out (.cells #[.int .i64 k, .int .u16 (a % 65536)] 38)) hb5)
      have HS := Aside0.mk (show w.heap.size ≤ wr.heap.size from below_size HB.out)
      have HNE := Aside0.mk (show w.heap.size ≠ wr.heap.size from fun h => by have := blk_lt HG.out; omega)
      clear hb5 HG HB
      by_cases hn : num k = true
      · have hdk : dk a k = a % 65536 := by unfold dk; rw [if_pos hn]
        have HDK := Aside0.mk hdk
        rw [hdk] at HC
        rw [hn] at HD ⊢
        have hz0 := blk_cell HZ5.out 0
        have hz1 := blk_cell HZ5.out 1
        simp only [List.getElem?_toArray, List.getElem?_cons_zero, List.getElem?_cons_succ] at hz0 hz1
        clear hdk
        go_wp2_with fail
        refine (ravelinref02_Code.calls k (a % 65536) cw 0 _ HC.out).mono ?_
        rintro e w6 ⟨rfl, hb6⟩
        clear hz0 hz1
        have HG6 := Aside0.mk (blk_below HG5.out hb6)
        have HZ6 := Aside0.mk (blk_below HZ5.out hb6)
        have HB6 := Aside0.mk (below_step HB5.out hb6)
        clear hb6 HG5 HZ5 HB5
        have hz0 := blk_cell HZ6.out 0
        have hz1 := blk_cell HZ6.out 1
        simp only [List.getElem?_toArray, List.getElem?_cons_zero, List.getElem?_cons_succ] at hz0 hz1
        have hr0 := blk_cell HG6.out 0
        have hr1 := blk_cell HG6.out 1
        simp only [List.getElem?_toArray, List.getElem?_cons_zero, List.getElem?_cons_succ] at hr0 hr1
        have fr0 := blk_frozen HG6.out 0
        have fr1 := blk_frozen HG6.out 1
        by_cases he : cw = a
        · have he2 : (cw == a) = true := by simpa using he
          have hy := HY.out (HH.out.2 he)
          have HY2 := Aside0.mk hy
          have HV := Aside0.mk (below_set (j := 1) (v := .int .u16 (a % 65536)) (below_set (j := 0) (v := .int .i64 k) HB6.out (Nat.le_refl _)) (Nat.le_refl _))
          have HP := Aside0.mk (blk_put (blk_put HG6.out 0 (.int .i64 k) rfl) 1 (.int .u16 (a % 65536)) rfl)
          clear hy HY HH HC HD EU
          go_wp2
          refine bodyPost_ret (results_ct rfl _ _ w.heap.size 38 #[.int .i64 k, .int .u16 (a % 65536)] (0, 0) _ rfl HP.out Try.underlying38 rfl (by kernel_rfl)) rfl ?_
          rw [HY2.out, HDK.out]
          exact ⟨rfl, HV.out⟩
        · have he2 : (cw == a) = false := by simpa using he
          have HN2 := Aside0.mk (show ∀ j : Nat, 1 ≤ j → j < k + 1 → ¬ hit a j from fun j j1 j2 hj => by
            by_cases hjk : j < k
            · exact HN.out j j1 hjk hj
            · obtain rfl : j = k := by omega
              exact he (HH.out.1 hj))
          clear HY HH HC HD EU HN
          go_wp2
          exact ⟨⟨k + 1, by go_num, by omega, by omega, HN2, HG6, HB6⟩, by simp [intOf]; omega⟩
      · have hdk : dk a k = 0 := by unfold dk; rw [if_neg hn]
        have HDK := Aside0.mk hdk
        rw [hdk] at HC
        have hn2 : num k = false := by simpa using hn
        rw [hn2] at HD ⊢
        have hz0 := blk_cell HZ5.out 0
        have hz1 := blk_cell HZ5.out 1
        simp only [List.getElem?_toArray, List.getElem?_cons_zero, List.getElem?_cons_succ] at hz0 hz1
        have fz := blk_frozen HZ5.out 1
        have HZ7 := blk_put (cs' := #[.int .i64 k, .int .u16 0]) HZ5.out 1 (.int .u16 0) rfl
        have HG7 := blk_far HG5.out (p := ⟨wr.heap.size, 1, none⟩) HNE.out (.int .u16 0)
        have HB7 := below_set (j := 1) (v := .int .u16 0) HB5.out HS.out
        have hy0 := blk_cell HZ7 0
        have hy1 := blk_cell HZ7 1
        simp only [List.getElem?_toArray, List.getElem?_cons_zero, List.getElem?_cons_succ] at hy0 hy1
        clear hdk
        go_wp2_with fail
        refine (ravelinref02_Code.calls k 0 cw 0 _ HC.out).mono ?_
        rintro e w6 ⟨rfl, hb6⟩
        clear hz0 hz1 fz hy0 hy1 HZ5 HG5 HB5
        have HZ5 := Aside0.mk HZ7
        have HG5 := Aside0.mk HG7
        have HB5 := Aside0.mk HB7
        clear HZ7 HG7 HB7
        have HG6 := Aside0.mk (blk_below HG5.out hb6)
        have HZ6 := Aside0.mk (blk_below HZ5.out hb6)
        have HB6 := Aside0.mk (below_step HB5.out hb6)
        clear hb6 HG5 HZ5 HB5
        have hz0 := blk_cell HZ6.out 0
        have hz1 := blk_cell HZ6.out 1
        simp only [List.getElem?_toArray, List.getElem?_cons_zero, List.getElem?_cons_succ] at hz0 hz1
        have hr0 := blk_cell HG6.out 0
        have hr1 := blk_cell HG6.out 1
        simp only [List.getElem?_toArray, List.getElem?_cons_zero, List.getElem?_cons_succ] at hr0 hr1
        have fr0 := blk_frozen HG6.out 0
        have fr1 := blk_frozen HG6.out 1
        by_cases he : cw = a
        · have he2 : (cw == a) = true := by simpa using he
          have hy := HY.out (HH.out.2 he)
          have HY2 := Aside0.mk hy
          have HV := Aside0.mk (below_set (j := 1) (v := .int .u16 0) (below_set (j := 0) (v := .int .i64 k) HB6.out (Nat.le_refl _)) (Nat.le_refl _))
          have HP := Aside0.mk (blk_put (blk_put HG6.out 0 (.int .i64 k) rfl) 1 (.int .u16 0) rfl)
          clear hy HY HH HC HD EU
          go_wp2
          refine bodyPost_ret (results_ct rfl _ _ w.heap.size 38 #[.int .i64 k, .int .u16 0] (0, 0) _ rfl HP.out Try.underlying38 rfl (by kernel_rfl)) rfl ?_
          rw [HY2.out, HDK.out]
          exact ⟨rfl, HV.out⟩
        · have he2 : (cw == a) = false := by simpa using he
          have HN2 := Aside0.mk (show ∀ j : Nat, 1 ≤ j → j < k + 1 → ¬ hit a j from fun j j1 j2 hj => by
            by_cases hjk : j < k
            · exact HN.out j j1 hjk hj
            · obtain rfl : j = k := by omega
              exact he (HH.out.1 hj))
          clear HY HH HC HD EU HN
          go_wp2
          exact ⟨⟨k + 1, by go_num, by omega, by omega, HN2, HG6, HB6⟩, by simp [intOf]; omega⟩
    · obtain rfl : k = 9 := by omega
      have hy := act_miss a HN.out
      have hr0 := blk_cell HG.out 0
      have hr1 := blk_cell HG.out 1
      simp only [List.getElem?_toArray, List.getElem?_cons_zero, List.getElem?_cons_succ] at hr0 hr1
      have fr0 := blk_frozen HG.out 0
      have fr1 := blk_frozen HG.out 1
      have HY2 := Aside0.mk hy
      have HV := Aside0.mk (below_set (j := 1) (v := .int .u16 0) (below_set (j := 0) (v := .int .i64 0) HB.out (Nat.le_refl _)) (Nat.le_refl _))
      have HP := Aside0.mk (blk_put (blk_put HG.out 0 (.int .i64 0) rfl) 1 (.int .u16 0) rfl)
      clear hy
      go_wp2
      refine bodyPost_ret (results_ct rfl _ _ w.heap.size 38 #[.int .i64 0, .int .u16 0] (0, 0) _ rfl HP.out Try.underlying38 rfl (by kernel_rfl)) rfl ?_
      rw [HY2.out]
      exact ⟨rfl, HV.out⟩
end Go.Proofs.Ytplplillpjnnnaa.RefAction
