/- The walk of the law SecdataCodes: out of what Code and Action answer, the law returns true. Conditions: those of the theorem. -/
import Derived.Test.YtplplillpjnnnaaCommon
import Derived.Test.YtplplillpjnnnaaFactsC
import Derived.Deep.QuietTactic
import Derived.BigQuiet
namespace Go.Proofs.Ytplplillpjnnnaa.CodesWalk
open Go.RowKit Go.Proofs.Ytplplillpjnnnaa.PSecdataActions Go.Proofs.Ytplplillpjnnnaa.FactsC Go.Proofs.Ytplplillpjnnnaa.Common Go.Proofs.YtplplillpjnnnaaW.PrintWords Go.Proofs.YtplplillpjnnnaaW.PrintLast Go.Proofs.YtplplillpjnnnaaW.PrintMore
set_option linter.unusedVariables false
set_option linter.unusedSimpArgs false

/-- An action's cells. -/
def kAct : Kd (Int × Int) := Kd.pair (Kd.int .i64) (Kd.int .u16)
theorem kAct_mk (W : World) (k d : Int) : kAct.K W (k, d) [.int .i64 k, .int .u16 d] := ⟨[.int .i64 k], [.int .u16 d], rfl, rfl, rfl⟩
theorem act_at {w : World} {A : Option Addr} {n : Nat} {xs : List (Int × Int)} (h : Kd.C kAct w A n xs) (i : Nat) (h1 : i < n) : ∃ ad, A = some ad ∧ w.cell? (ad.add (i * 2)) = some (.int .i64 (xs.getD i (0, 0)).1) ∧ w.cell? ⟨(ad.add (i * 2)).block, (ad.add (i * 2)).off + 1, none⟩ = some (.int .u16 (xs.getD i (0, 0)).2) := by
  obtain ⟨ad, c, e, _, hK, hc0⟩ := Kd.C_get h (0, 0) (i : Int) (by omega) (by omega)
  rw [Int.toNat_natCast] at hK hc0
  have hc : ∀ j u, c[j]? = some u → w.cell? (ad.add (i * 2 + j)) = some u := hc0
  obtain ⟨_, _, rfl, rfl, rfl⟩ := hK
  exact ⟨ad, e, hc 0 _ rfl, by rw [← add_field _ _ 1 (by omega)]; exact hc 1 _ rfl⟩
theorem eq_act (k d : Int) (W : World) : (Op.equalIn 10000 38 (.agg #[.int .i64 k, .int .u16 d]) (.agg #[.int .i64 k, .int .u16 d])).run Try.prog W = .ok true W := by
  have h1 : (Op.equalIn 9999 35 (.int .i64 k) (.int .i64 k)).run Try.prog W = .ok true W := by
    rw [run_equalIn_int W 9998 35 .i64 .i64 k k Try.underlying35]; simp
  have h2 : (Op.equalIn 9999 36 (.int .u16 d) (.int .u16 d)).run Try.prog W = .ok true W := by
    rw [run_equalIn_int W 9998 36 .u16 .u16 d d Try.underlying36]; simp
  exact eqA_of (P := Try.prog) (d := 9999) Try.underlying38 (by kernel_rfl) (eqf_cons (r := true) (s := true) (by decide +kernel) (by kernel_rfl) (by kernel_rfl) h1 (eqf_last (by decide +kernel) (by kernel_rfl) (by kernel_rfl) h2))
set_option maxRecDepth 100000 in
set_option maxHeartbeats 1600000 in
theorem walk (A : Option Addr) (c : Nat) (xs : List (Int × Int)) (w : World) (hr : Kd.C kAct w A xs.length xs) (hc : xs.length ≤ c) (hl : xs.length < 1000000000000000) (hx : ∀ x ∈ xs, 0 ≤ x.2 ∧ x.2 < 65536) :
    Calls Try.prog 4 #[.slice A xs.length c] w fun e w' => e = .returned (.bool true) ∧ Below w.heap.size w w' := by
  have HR := Aside0.mk hr
  have HL := Aside0.mk hl
  have HX := Aside0.mk hx
  clear hr hc hl hx
  go_enter Try.func4, Try.ntmps4
  go_wp2_with fail
  refine (head_calls _).mono ?_
  rintro e w1 ⟨rfl, hb1⟩
  have HB1 := Aside0.mk hb1
  clear hb1
  go_wp2_with fail
  go_loopw [4] (fun v4 w' => ∃ i : Nat, v4 = .int .i64 i ∧ i ≤ xs.length ∧ Aside0 (Below w.heap.size w w')) (fun v4 _ => xs.length - (intOf v4).toNat)
  case atStart => exact ⟨0, rfl, by omega, HB1⟩
  case round =>
    clear HB1
    obtain ⟨i, rfl, hi, HB⟩ := hrel
    by_cases hlt : i < xs.length
    · obtain ⟨ad, e120, hx0, hx1⟩ := act_at HR.out i hlt
      cases e120
      have D0 := Aside0.mk hx0
      have D1 := Aside0.mk hx1
      clear hx0 hx1
      have hm : xs.getD i (0, 0) ∈ xs := by
        rw [List.getD_eq_getElem?_getD, List.getElem?_eq_getElem hlt]
        exact List.getElem_mem hlt
      have hd := HX.out _ hm
      generalize hkd : xs.getD i (0, 0) = kd at D0 D1 hd
      obtain ⟨k, d⟩ := kd
      clear hm hkd
      have C1 := Aside0.mk (code_eq 91 k d hd.1 hd.2)
      have C2 := Aside0.mk (refCode_eq k d hd.1 hd.2)
      have C3 := Aside0.mk (act_code k d hd.1 hd.2)
      clear hd
      obtain ⟨c1, hc1⟩ : ∃ c1, codeW k d = c1 := ⟨_, rfl⟩
      obtain ⟨e1, he1⟩ : ∃ e1, codeE k d = e1 := ⟨_, rfl⟩
      rw [hc1, he1] at C1 C2 C3
      clear hc1 he1
      have hx0 := (HB.out.cell (World.block_lt_of_cell? w _ D0.out)).trans D0.out
      have hx1 := (HB.out.cell (World.block_lt_of_cell? w _ D1.out)).trans D1.out
      try dsimp only at hx0 hx1
      go_wp2_with fail
      refine (secdata_Code.calls 100 k d c1 e1 _ C1.out).mono ?_
      rintro e w2 ⟨rfl, hb⟩
      have HB2 := Aside0.mk (below_step HB.out hb)
      clear HB hb hx0 hx1 C1
      have hx0 := (HB2.out.cell (World.block_lt_of_cell? w _ D0.out)).trans D0.out
      have hx1 := (HB2.out.cell (World.block_lt_of_cell? w _ D1.out)).trans D1.out
      try dsimp only at hx0 hx1
      go_wp2_with fail
      refine (ravelinref02_Code.calls k d c1 e1 _ C2.out).mono ?_
      rintro e w3 ⟨rfl, hb⟩
      have HB3 := Aside0.mk (below_step HB2.out hb)
      clear HB2 hb hx0 hx1 C2
      by_cases he : e1 = 0
      · obtain ⟨a1, a2, a3⟩ := C3.out he
        have C4 := Aside0.mk ((action_eq 91 c1 a2 a3).trans (congrArg some a1))
        subst he
        clear a1 a2 a3 C3
        go_wp2_with fail
        refine (secdata_Action.calls 100 c1 k d 0 _ C4.out).mono ?_
        rintro e w4 ⟨rfl, hb⟩
        have HB4 := Aside0.mk (below_step HB3.out hb)
        clear HB3 hb C4
        go_wp2_with fail
        have HB5 := Aside0.mk (below_alloc HB4.out (.cells #[.int .i64 k, .int .u16 d] 38))
        have hx0 := (HB5.out.cell (World.block_lt_of_cell? w _ D0.out)).trans D0.out
        have hx1 := (HB5.out.cell (World.block_lt_of_cell? w _ D1.out)).trans D1.out
        try dsimp only at hx0 hx1
        have hb0 := blk_cell (blk_new w4 (.cells #[.int .i64 k, .int .u16 d] 38)) 0
        have hb1 := blk_cell (blk_new w4 (.cells #[.int .i64 k, .int .u16 d] 38)) 1
        simp only [List.getElem?_toArray, List.getElem?_cons_zero, List.getElem?_cons_succ] at hb0 hb1
        have heq := eq_act k d
        have q0 : (0 : Int) ≤ (i : Int) := by omega
        have q1 : (i : Int) < (xs.length : Int) := by omega
        clear HB4
        generalize w4.alloc (.cells #[.int .i64 k, .int .u16 d] 38) = w5 at HB5 hx0 hx1 hb0 hb1 ⊢
        go_quiet (fail)
        have HB6 := Aside0.mk (pw_below_drewN HB5.out nq)
        clear HB5 hx0 hx1 hb0 hb1 heq
        have hL := HL.out
        go_wp2
        exact ⟨⟨i + 1, by go_num, by omega, HB6⟩, by simp [intOf]; omega⟩
      · have he1 : (e1 == 0) = false := by simpa using he
        have he2 : (e1 != 0) = true := by simpa using he
        have hL := HL.out
        clear C3 he
        go_wp2
        exact ⟨⟨i + 1, by go_num, by omega, HB3⟩, by simp [intOf]; omega⟩
    · obtain rfl : i = xs.length := by omega
      go_wp2
      go_ret
      exact ⟨rfl, HB.out⟩
end Go.Proofs.Ytplplillpjnnnaa.CodesWalk
