/- The walk of the law SecdataActions: out of what Action and Code answer, the law returns true. Conditions: those of the theorem. -/
import Derived.Test.YtplplillpjnnnaaWalkSecdataCodes
import Derived.Test.YtplplillpjnnnaaRefAction
import Derived.Deep.QuietTactic
import Derived.BigQuiet
namespace Go.Proofs.Ytplplillpjnnnaa.ActionsWalk
open Go.RowKit Go.Proofs.Ytplplillpjnnnaa.PSecdataActions Go.Proofs.Ytplplillpjnnnaa.FactsC Go.Proofs.Ytplplillpjnnnaa.Common Go.Proofs.YtplplillpjnnnaaW.PrintWords Go.Proofs.YtplplillpjnnnaaW.PrintLast Go.Proofs.YtplplillpjnnnaaW.PrintMore
set_option linter.unusedVariables false
set_option linter.unusedSimpArgs false

theorem u32_at {w : World} {A : Option Addr} {n : Nat} {xs : List Int} (h : Kd.C (Kd.int .u32) w A n xs) (i : Nat) (h1 : i < n) : ∃ ad, A = some ad ∧ w.cell? (ad.add i) = some (.int .u32 (xs.getD i 0)) := by
  obtain ⟨ad, c, e, _, hK, hc0⟩ := Kd.C_get h 0 (i : Int) (by omega) (by omega)
  rw [Int.toNat_natCast] at hK hc0
  have hc : ∀ j u, c[j]? = some u → w.cell? (ad.add (i * 1 + j)) = some u := hc0
  obtain rfl : c = [.int .u32 (xs.getD i 0)] := hK
  refine ⟨ad, e, ?_⟩
  have := hc 0 _ rfl
  simpa using this
set_option maxRecDepth 100000 in
set_option maxHeartbeats 1600000 in
theorem walk (A : Option Addr) (c : Nat) (xs : List Int) (w : World) (hr : Kd.C (Kd.int .u32) w A xs.length xs) (hc : xs.length ≤ c) (hl : xs.length < 1000000000000000) (hx : ∀ x ∈ xs, 0 ≤ x ∧ x < 4294967296) :
    Calls Try.prog 5 #[.slice A xs.length c] w fun e w' => e = .returned (.bool true) ∧ Below w.heap.size w w' := by
  have HR := Aside0.mk hr
  have HL := Aside0.mk hl
  have HX := Aside0.mk hx
  clear hr hc hl hx
  go_enter Try.func5, Try.ntmps5
  go_wp2_with fail
  refine (head_calls _).mono ?_
  rintro e w1 ⟨rfl, hb1⟩
  have HB1 := Aside0.mk hb1
  clear hb1
  go_wp2_with fail
  go_loopw [4] (fun v4 w' => ∃ i : Nat, v4 = .int .i64 i ∧ i ≤ xs.length ∧ Aside0 (Below w.heap.size w w')) (fun v4 _ => xs.length - (intOf v4).toNat)
  case atStart => exact ⟨0, rfl, by omega, HB1⟩
  case round =>
    clear HB1
    obtain ⟨i, rfl, hi, HB⟩ := hrel
    by_cases hlt : i < xs.length
    · obtain ⟨ad, e120, hx0⟩ := u32_at HR.out i hlt
      cases e120
      have D0 := Aside0.mk hx0
      clear hx0
      have hm : xs.getD i 0 ∈ xs := by
        rw [List.getD_eq_getElem?_getD, List.getElem?_eq_getElem hlt]
        exact List.getElem_mem hlt
      have hd := HX.out _ hm
      generalize hkd : xs.getD i 0 = a at D0 hd
      clear hm hkd
      have C1 := Aside0.mk (action_eq 91 a hd.1 hd.2)
      have C2 := Aside0.mk (fun W => RefAction.walk a hd.1 hd.2 W)
      have C3 := Aside0.mk (RefAction.act_back a)
      clear hd
      generalize act a = ac at C1 C2 C3
      obtain ⟨k, d, e1⟩ := ac
      replace C2 : Aside0 (∀ W, Calls Try.prog 15 #[.int .u32 a] W fun e w' => e = .returned (.tuple #[.agg #[.int .i64 k, .int .u16 d], .int .i64 e1]) ∧ Below W.heap.size W w') := C2
      replace C3 : Aside0 (e1 = 0 → codeW k d = a ∧ codeE k d = 0 ∧ 0 ≤ d ∧ d < 65536) := C3
      have hx0 := (HB.out.cell (World.block_lt_of_cell? w _ D0.out)).trans D0.out
      try dsimp only at hx0
      go_wp2_with fail
      refine (secdata_Action.calls 100 a k d e1 _ C1.out).mono ?_
      rintro e w2 ⟨rfl, hb⟩
      have HB2 := Aside0.mk (below_alloc (below_step HB.out hb) (.cells #[.int .i64 k, .int .u16 d] 38))
      have HZ2 := Aside0.mk (blk_new w2 (.cells #[.int .i64 k, .int .u16 d] 38))
      clear HB hb hx0 C1
      have hx0 := (HB2.out.cell (World.block_lt_of_cell? w _ D0.out)).trans D0.out
      try dsimp only at hx0
      go_wp2_with fail
      refine (C2.out _).mono ?_
      rintro e w3 ⟨rfl, hb⟩
      have HB4 := Aside0.mk (below_alloc (below_step HB2.out hb) (.cells #[.int .i64 k, .int .u16 d] 38))
      have HZ4 := Aside0.mk (blk_alloc (blk_below HZ2.out hb) (.cells #[.int .i64 k, .int .u16 d] 38))
      have HY4 := Aside0.mk (blk_new w3 (.cells #[.int .i64 k, .int .u16 d] 38))
      clear HB2 HZ2 hb hx0 C2
      have hx0 := (HB4.out.cell (World.block_lt_of_cell? w _ D0.out)).trans D0.out
      try dsimp only at hx0
      have hz0 := blk_cell HZ4.out 0
      have hz1 := blk_cell HZ4.out 1
      have hy0 := blk_cell HY4.out 0
      have hy1 := blk_cell HY4.out 1
      simp only [List.getElem?_toArray, List.getElem?_cons_zero, List.getElem?_cons_succ] at hz0 hz1 hy0 hy1
      have heq := CodesWalk.eq_act k d
      by_cases he : e1 = 0
      · obtain ⟨a1, a2, a3, a4⟩ := C3.out he
        have C4 := Aside0.mk (code_eq 91 k d a3 a4)
        rw [a1, a2] at C4
        subst he
        clear a1 a2 a3 a4 C3
        go_wp2_with fail
        refine (secdata_Code.calls 100 k d a 0 _ C4.out).mono ?_
        rintro e w5 ⟨rfl, hb⟩
        have HB5 := Aside0.mk (below_step HB4.out hb)
        clear HB4 hx0 hz0 hz1 hy0 hy1 C4 HZ4 HY4 hb
        have hx0 := (HB5.out.cell (World.block_lt_of_cell? w _ D0.out)).trans D0.out
        try dsimp only at hx0
        have hL := HL.out
        go_wp2
        exact ⟨⟨i + 1, by go_num, by omega, HB5⟩, by simp [intOf]; omega⟩
      · have he1 : (e1 == 0) = false := by simpa using he
        have he2 : (e1 != 0) = true := by simpa using he
        have hL := HL.out
        clear C3 he HZ4 HY4
        go_wp2
        exact ⟨⟨i + 1, by go_num, by omega, HB4⟩, by simp [intOf]; omega⟩
    · obtain rfl : i = xs.length := by omega
      go_wp2
      go_ret
      exact ⟨rfl, HB.out⟩
end Go.Proofs.Ytplplillpjnnnaa.ActionsWalk
