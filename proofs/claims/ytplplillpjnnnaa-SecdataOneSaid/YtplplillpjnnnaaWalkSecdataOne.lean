/- The walk of the law SecdataOne: another argument turns just its own two words. Conditions: those of the theorem. -/
import Derived.Test.YtplplillpjnnnaaFactsV
import Derived.Test.YtplplillpjnnnaaWalkSecdataReads
namespace Go.Proofs.Ytplplillpjnnnaa.OneWalk
open Go.RowKit Go.Proofs.Ytplplillpjnnnaa.PSecdataWords Go.Proofs.Ytplplillpjnnnaa.Bits Go.Proofs.Ytplplillpjnnnaa.Dat Go.Proofs.Ytplplillpjnnnaa.Dat2 Go.Proofs.Ytplplillpjnnnaa.FactsV Go.Proofs.Ytplplillpjnnnaa.Common Go.Proofs.Ytplplillpjnnnaa.ApartWalk Go.Proofs.Ytplplillpjnnnaa.BytesWalk Go.Proofs.YtplplillpjnnnaaW.PrintWords Go.Proofs.YtplplillpjnnnaaW.PrintLast Go.Proofs.YtplplillpjnnnaaW.PrintMore
set_option linter.unusedVariables false
set_option linter.unusedSimpArgs false

/-- Data with another argument. -/
def dset (d : Dt) (n : Nat) (v : BitVec 64) : Dt := ⟨d.nr, d.arch, d.ip, if n = 0 then v else d.a0, if n = 1 then v else d.a1, if n = 2 then v else d.a2, if n = 3 then v else d.a3, if n = 4 then v else d.a4, if n = 5 then v else d.a5⟩
theorem dset_arg (d : Dt) (n : Nat) (hn : n < 6) (v : BitVec 64) (m : Nat) (hm : m < 6) : (dset d n v).arg m = if m = n then v else d.arg m := by
  rcases m with _ | _ | _ | _ | _ | _ | m <;> first | (simp only [dset, Dt.arg, eq_comm]; done) | rfl | omega
theorem dset_list (d : Dt) (n : Nat) (hn : n < 6) (v : BitVec 64) : ([.int .u32 (U d.nr), .int .u32 (U d.arch), .int .u64 (U d.ip), .int .u64 (U d.a0), .int .u64 (U d.a1), .int .u64 (U d.a2), .int .u64 (U d.a3), .int .u64 (U d.a4), .int .u64 (U d.a5)] : List Value).set (3 + n) (.int .u64 (U v)) = [.int .u32 (U (dset d n v).nr), .int .u32 (U (dset d n v).arch), .int .u64 (U (dset d n v).ip), .int .u64 (U (dset d n v).a0), .int .u64 (U (dset d n v).a1), .int .u64 (U (dset d n v).a2), .int .u64 (U (dset d n v).a3), .int .u64 (U (dset d n v).a4), .int .u64 (U (dset d n v).a5)] := by
  rcases n with _ | _ | _ | _ | _ | _ | n <;> first | rfl | omega
/-- The words of four bytes. -/
def hw (d : Dt) : Nat → Int
  | 0 => U d.nr
  | 1 => U d.arch
  | 2 => IntKind.u32.wrap (U d.ip)
  | 3 => IntKind.u32.wrap (U (d.ip >>> 32))
  | j + 4 => if j % 2 = 0 then IntKind.u32.wrap (U (d.arg (j / 2))) else IntKind.u32.wrap (U (d.arg (j / 2) >>> 32))
theorem hw4 (d : Dt) (j : Nat) : hw d (j + 4) = if j % 2 = 0 then IntKind.u32.wrap (U (d.arg (j / 2))) else IntKind.u32.wrap (U (d.arg (j / 2) >>> 32)) := rfl
theorem dOf_arg (l : List Int) (m : Nat) (hm : m < 6) : (dOf l).arg m = ld l (16 + 8 * m) 8 := by
  rcases m with _ | _ | _ | _ | _ | _ | m <;> first | rfl | omega
theorem hw_eq {l : List Int} (hb : isBytes l) : ∀ j : Nat, j < 16 → U (ld l (4 * j) 4) = hw (dOf l) j
  | 0, _ => rfl
  | 1, _ => rfl
  | 2, _ => (half_low hb 8).symm
  | 3, _ => (half_high hb 8).symm
  | j + 4, h => by
    rw [hw4, dOf_arg l _ (by omega), half_low hb, half_high hb]
    split
    · rw [show 4 * (j + 4) = 16 + 8 * (j / 2) by omega]
    · rw [show 4 * (j + 4) = 16 + 8 * (j / 2) + 4 by omega]
theorem wW_eq (d : Dt) (hd : Dt.small d) (j : Nat) (hj : j < 16) : wW (dB d) (4 * (j : Int)) = hw d j := by
  unfold wW
  rw [if_pos ⟨dB_length d, by omega, by omega, by omega⟩, show (4 * (j : Int)).toNat = 4 * j by omega, hw_eq (dB_bytes d) j hj, dOf_dB d hd]
theorem want_eq (d : Dt) (hd : Dt.small d) (n : Nat) (hn : n < 6) (v : BitVec 64) (j : Nat) (hj : j < 16) :
    wW (dB (dset d n v)) (4 * (j : Int)) = if (4 * (j : Int)) = 16 + 8 * (n : Int) + 4 then IntKind.u32.wrap (U (v >>> 32)) else if (4 * (j : Int)) = 16 + 8 * (n : Int) then IntKind.u32.wrap (U v) else wW (dB d) (4 * (j : Int)) := by
  rw [wW_eq d hd j hj, wW_eq (dset d n v) hd j hj]
  match j, hj with
  | 0, _ => rw [if_neg (by omega), if_neg (by omega)]; rfl
  | 1, _ => rw [if_neg (by omega), if_neg (by omega)]; rfl
  | 2, _ => rw [if_neg (by omega), if_neg (by omega)]; rfl
  | 3, _ => rw [if_neg (by omega), if_neg (by omega)]; rfl
  | j + 4, hj =>
    rw [hw4, hw4, dset_arg d n hn v (j / 2) (by omega)]
    by_cases hp : j % 2 = 0
    · rw [if_pos hp, if_pos hp]
      by_cases hm : j / 2 = n
      · rw [if_pos hm, if_neg (by omega), if_pos (by omega)]
      · rw [if_neg hm, if_neg (by omega), if_neg (by omega)]
    · rw [if_neg hp, if_neg hp]
      by_cases hm : j / 2 = n
      · rw [if_pos hm, if_pos (by omega)]
      · rw [if_neg hm, if_neg (by omega), if_neg (by omega)]
theorem aA_at (n : Nat) (hn : n < 6) : aA (n : Int) false = 16 + 8 * (n : Int) ∧ aA (n : Int) true = 16 + 8 * (n : Int) + 4 ∧ aE (n : Int) = 0 := by
  have hp : (0 : Int) ≤ (n : Int) ∧ (n : Int) ≤ 5 := ⟨by omega, by omega⟩
  unfold aA aE
  simp only [if_pos hp]
  exact ⟨rfl, rfl, trivial⟩
set_option maxRecDepth 100000 in
set_option maxHeartbeats 3200000 in
theorem walk (d : Dt) (hd : Dt.small d) (i : Int) (v : BitVec 64) (w : World) :
    Calls Try.prog 9 #[.agg #[.int .u32 (U d.nr), .int .u32 (U d.arch), .int .u64 (U d.ip), .int .u64 (U d.a0), .int .u64 (U d.a1), .int .u64 (U d.a2), .int .u64 (U d.a3), .int .u64 (U d.a4), .int .u64 (U d.a5)], .int .i64 i, .int .u64 (U v)] w fun e w' => e = .returned (.bool true) ∧ Below w.heap.size w w' := by
  have HSM := Aside0.mk hd
  clear hd
  have AC := Aside0.mk (fun i h W => secdata_Arg.calls 100 i h _ _ W (arg_eq 99 i h))
  go_enter Try.func9, Try.ntmps9
  go_wp2_with fail
  refine (head_calls _).mono ?_
  rintro e w1 ⟨rfl, hb1⟩
  obtain ⟨BX0, HB0⟩ := box_later hb1
  have HB := Aside0.mk HB0
  have BX := Aside0.mk BX0
  clear hb1 BX0 HB0
  by_cases hlo : i < 0
  · clear HSM AC
    go_wp2
    go_ret
    exact ⟨rfl, HB.out⟩
  by_cases hhi : i > 5
  · clear HSM AC
    go_wp2
    go_ret
    exact ⟨rfl, HB.out⟩
  obtain ⟨n, rfl⟩ := Int.eq_ofNat_of_zero_le (by omega : 0 ≤ i)
  have hn : n < 6 := by omega
  have hlo2 : decide ((n : Int) < 0) = false := decide_eq_false (by omega)
  have q1 : (n : Int) < 6 := by omega
  have q0 : (0 : Int) ≤ (n : Int) := by omega
  obtain ⟨a1, a2, a3⟩ := aA_at n hn
  have ACL := Aside0.mk (fun W => AC.out (n : Int) false W)
  have ACH := Aside0.mk (fun W => AC.out (n : Int) true W)
  rw [a1, a3] at ACL
  rw [a2, a3] at ACH
  clear AC a1 a2 a3
  obtain ⟨c0, c1, c2, c3, c4, c5, c6, c7, c8⟩ := cells_of BX.out
  have WE := Aside0.mk (fun j hj => want_eq d HSM.out n hn v j hj)
  have hset := dset_list d n hn v
  obtain ⟨x, hx⟩ : ∃ x, (dset d n v) = x := ⟨_, rfl⟩
  rw [hx] at WE hset
  clear hx
  have d3 := (blk_cell (blk_new w1 (.cells #[.int .u32 (U d.nr), .int .u32 (U d.arch), .int .u64 (U d.ip), .int .u64 (U d.a0), .int .u64 (U d.a1), .int .u64 (U d.a2), .int .u64 (U d.a3), .int .u64 (U d.a4), .int .u64 (U d.a5)] 26)) (3 + n)).trans (Dt.val3 d n hn)
  have f3 := blk_frozen (blk_new w1 (.cells #[.int .u32 (U d.nr), .int .u32 (U d.arch), .int .u64 (U d.ip), .int .u64 (U d.a0), .int .u64 (U d.a1), .int .u64 (U d.a2), .int .u64 (U d.a3), .int .u64 (U d.a4), .int .u64 (U d.a5)] 26)) (3 + n)
  have HBs := Aside0.mk (below_alloc HB.out (.cells #[.int .u32 (U x.nr), .int .u32 (U x.arch), .int .u64 (U x.ip), .int .u64 (U x.a0), .int .u64 (U x.a1), .int .u64 (U x.a2), .int .u64 (U x.a3), .int .u64 (U x.a4), .int .u64 (U x.a5)] 26))
  have BXs := Aside0.mk (blk_alloc BX.out (.cells #[.int .u32 (U x.nr), .int .u32 (U x.arch), .int .u64 (U x.ip), .int .u64 (U x.a0), .int .u64 (U x.a1), .int .u64 (U x.a2), .int .u64 (U x.a3), .int .u64 (U x.a4), .int .u64 (U x.a5)] 26))
  have BNs := Aside0.mk (blk_new w1 (.cells #[.int .u32 (U x.nr), .int .u32 (U x.arch), .int .u64 (U x.ip), .int .u64 (U x.a0), .int .u64 (U x.a1), .int .u64 (U x.a2), .int .u64 (U x.a3), .int .u64 (U x.a4), .int .u64 (U x.a5)] 26))
  obtain ⟨b0, b1, b2, b3, b4, b5, b6, b7, b8⟩ := cells_of BXs.out
  clear HB BX
  go_wp2_with fail
  refine (bytes_calls d _).mono ?_
  rintro e w2 ⟨A, cA, rfl, hrA, hb2⟩
  have HB2 := Aside0.mk (below_step HBs.out hb2)
  have BN2 := Aside0.mk (blk_below BNs.out hb2)
  have hcA := (Kd.R_reads' hrA).2.1
  have CA := Aside0.mk (row_str (dB_length d) hrA).1
  have HCA := Aside0.mk hcA
  clear hb2 hrA hcA c0 c1 c2 c3 c4 c5 c6 c7 c8 b0 b1 b2 b3 b4 b5 b6 b7 b8 d3 f3 hset HBs BXs BNs
  obtain ⟨b0, b1, b2, b3, b4, b5, b6, b7, b8⟩ := cells_of BN2.out
  go_wp2_with fail
  refine (bytes_calls x _).mono ?_
  rintro e w3 ⟨B, cB, rfl, hrB, hb3⟩
  have HB3 := Aside0.mk (below_step HB2.out hb3)
  have hcB := (Kd.R_reads' hrB).2.1
  have CB := Aside0.mk (row_str (dB_length x) hrB).1
  have CA3 := Aside0.mk (Kd.C_below CA.out hb3)
  have WA := Aside0.mk (fun W (hW : Below w3.heap.size w3 W) a => by
    have h := secdata_Word.calls 100 A cA (dB d) a _ _ W (by rw [dB_length]; exact Kd.C_below CA3.out hW) (by rw [dB_length]; exact HCA.out) (word_eq 100 (by omega) (dB d) (dB_bytes d) a)
    rw [dB_length] at h
    exact h)
  have WB := Aside0.mk (fun W (hW : Below w3.heap.size w3 W) a => by
    have h := secdata_Word.calls 100 B cB (dB x) a _ _ W (by rw [dB_length]; exact Kd.C_below CB.out hW) (by rw [dB_length]; exact hcB) (word_eq 100 (by omega) (dB x) (dB_bytes x) a)
    rw [dB_length] at h
    exact h)
  clear hb3 hrB hcB b0 b1 b2 b3 b4 b5 b6 b7 b8 HB2 BN2 CA CB CA3 HCA
  go_wp2_with fail
  refine (ACL.out _).mono ?_
  rintro e w4 ⟨rfl, hb⟩
  have L4 := Aside0.mk hb.below
  clear hb ACL
  go_wp2_with fail
  refine (ACH.out _).mono ?_
  rintro e w5 ⟨rfl, hb⟩
  have L5 := Aside0.mk (below_step L4.out hb.below)
  clear hb ACH L4
  go_wp2_with fail
  go_loopw [15] (fun v15 w' => ∃ j : Nat, v15 = .int .i64 (4 * (j : Int)) ∧ j ≤ 16 ∧ Aside0 (Below w3.heap.size w3 w')) (fun v15 _ => 64 - (intOf v15).toNat)
  case atStart => exact ⟨0, rfl, by omega, L5⟩
  case round =>
    clear L5
    obtain ⟨j, rfl, hj, L⟩ := hrel
    by_cases hlt : j < 16
    · have hw := WE.out j hlt
      have q2 : (4 * (j : Int)) < 64 := by omega
      go_wp2_with fail
      refine (WA.out _ L.out _).mono ?_
      rintro e w6 ⟨rfl, hb⟩
      have L6 := Aside0.mk (below_step L.out hb.below)
      clear hb L
      go_wp2_with fail
      refine (WB.out _ L6.out _).mono ?_
      rintro e w7 ⟨rfl, hb⟩
      have L7 := Aside0.mk (below_step L6.out hb.below)
      clear hb L6
      have hs : U v / 4294967296 = U (v >>> 32) := shr_U v 32
      by_cases e1 : (4 * (j : Int)) = 16 + 8 * (n : Int) + 4
      · rw [if_pos e1] at hw
        have e2 : ¬ (4 * (j : Int)) = 16 + 8 * (n : Int) := by omega
        have e1b : ((4 * (j : Int)) == 16 + 8 * (n : Int) + 4) = true := by simpa using e1
        have e2b : ((4 * (j : Int)) == 16 + 8 * (n : Int)) = false := by simpa using e2
        rw [hw]
        clear e1 e2 hw WE
        go_wp2
        exact ⟨⟨j + 1, congrArg (Value.int .i64) (by omega), by omega, L7⟩, by simp only [intOf]; omega⟩
      · rw [if_neg e1] at hw
        have e1b : ((4 * (j : Int)) == 16 + 8 * (n : Int) + 4) = false := by simpa using e1
        by_cases e2 : (4 * (j : Int)) = 16 + 8 * (n : Int)
        · rw [if_pos e2] at hw
          have e2b : ((4 * (j : Int)) == 16 + 8 * (n : Int)) = true := by simpa using e2
          rw [hw]
          clear e1 e2 hw WE
          go_wp2
          exact ⟨⟨j + 1, congrArg (Value.int .i64) (by omega), by omega, L7⟩, by simp only [intOf]; omega⟩
        · rw [if_neg e2] at hw
          have e2b : ((4 * (j : Int)) == 16 + 8 * (n : Int)) = false := by simpa using e2
          rw [hw]
          clear e1 e2 hw WE
          go_wp2
          exact ⟨⟨j + 1, congrArg (Value.int .i64) (by omega), by omega, L7⟩, by simp only [intOf]; omega⟩
    · obtain rfl : j = 16 := by omega
      have HBL := Aside0.mk (below_step HB3.out L.out)
      clear WE
      go_wp2
      go_ret
      exact ⟨rfl, HBL.out⟩
end Go.Proofs.Ytplplillpjnnnaa.OneWalk
