/- The walk of the law SecdataWords: Word and Arg tell what the document says; the words at an argument's places are its halves. Conditions: those of the theorem. -/
import Derived.Test.YtplplillpjnnnaaFactsV
import Derived.Test.YtplplillpjnnnaaWalkSecdataReads
namespace Go.Proofs.Ytplplillpjnnnaa.WordsWalk
open Go.RowKit Go.Proofs.Ytplplillpjnnnaa.PSecdataWords Go.Proofs.Ytplplillpjnnnaa.Bits Go.Proofs.Ytplplillpjnnnaa.Dat Go.Proofs.Ytplplillpjnnnaa.Dat2 Go.Proofs.Ytplplillpjnnnaa.FactsV Go.Proofs.Ytplplillpjnnnaa.Common Go.Proofs.Ytplplillpjnnnaa.ApartWalk Go.Proofs.Ytplplillpjnnnaa.ReadsWalk Go.Proofs.YtplplillpjnnnaaW.PrintWords Go.Proofs.YtplplillpjnnnaaW.PrintLast Go.Proofs.YtplplillpjnnnaaW.PrintMore
set_option linter.unusedVariables false
set_option linter.unusedSimpArgs false

theorem i64_at {w : World} {A : Option Addr} {n : Nat} {xs : List Int} (h : Kd.C (Kd.int .i64) w A n xs) (i : Nat) (h1 : i < n) : ∃ ad, A = some ad ∧ w.cell? (ad.add i) = some (.int .i64 (xs.getD i 0)) := by
  obtain ⟨ad, c, e, _, hK, hc0⟩ := Kd.C_get h 0 (i : Int) (by omega) (by omega)
  rw [Int.toNat_natCast] at hK hc0
  have hc : ∀ j u, c[j]? = some u → w.cell? (ad.add (i * 1 + j)) = some u := hc0
  obtain rfl : c = [.int .i64 (xs.getD i 0)] := hK
  refine ⟨ad, e, ?_⟩
  have := hc 0 _ rfl
  simpa using this
theorem rE_zero {l : List Int} (h : rE l = 0) : rD l = dOf l ∧ l.length = 64 := by
  unfold rE at h
  by_cases hl : l.length = 64
  · unfold rD
    rw [if_pos hl]
    exact ⟨rfl, hl⟩
  · rw [if_neg hl] at h
    cases h
/-- Where both agree there is nothing to tell: the halves. -/
theorem halves {l : List Int} (hb : isBytes l) (he : rE l = 0) (n : Nat) (hn : n < 6) (high : Bool) :
    aA (n : Int) high = ((16 + 8 * n + (if high = true then 4 else 0) : Nat) : Int) ∧ wE l (aA (n : Int) high) = 0 ∧
    wW l (aA (n : Int) high) = (if high = true then IntKind.u32.wrap (U ((rD l).arg n >>> 32)) else IntKind.u32.wrap (U ((rD l).arg n))) := by
  obtain ⟨hd, hl⟩ := rE_zero he
  have e : aA (n : Int) high = ((16 + 8 * n + (if high = true then 4 else 0) : Nat) : Int) := by
    unfold aA
    rw [if_pos ⟨by omega, by omega⟩]
    cases high <;> simp
  have ha : (rD l).arg n = ld l (16 + 8 * n) 8 := by
    rw [hd]
    rcases n with _ | _ | _ | _ | _ | _ | n <;> first | rfl | omega
  refine ⟨e, ?_, ?_⟩
  · rw [e]
    unfold wE
    rw [if_pos hl]
    cases high
    · rw [if_pos ⟨by omega, by simp; omega, by simp; omega⟩]
    · rw [if_pos ⟨by omega, by simp; omega, by simp; omega⟩]
  · rw [e, ha]
    unfold wW
    cases high
    · rw [if_pos ⟨hl, by omega, by simp; omega, by simp; omega⟩, half_low hb]
      rfl
    · rw [if_pos ⟨hl, by omega, by simp; omega, by simp; omega⟩, half_high hb]
      rfl
set_option maxRecDepth 100000 in
set_option maxHeartbeats 3200000 in
theorem walk (A : Option Addr) (c : Nat) (l : List Int) (A1 : Option Addr) (c1 : Nat) (xs : List Int) (high : Bool) (w : World) (hr : Kd.C (Kd.int .u8) w A l.length l) (hc : l.length ≤ c) (hl : l.length < 1000000000000000) (hby : isBytes l)
    (hr1 : Kd.C (Kd.int .i64) w A1 xs.length xs) (hc1 : xs.length ≤ c1) (hl1 : xs.length < 1000000000000000) :
    Calls Try.prog 8 #[.slice A l.length c, .slice A1 xs.length c1, .bool high] w fun e w' => e = .returned (.bool true) ∧ Below w.heap.size w w' := by
  have HR0 := Aside0.mk hr
  have HP := Aside0.mk hr1
  have HL1 := Aside0.mk hl1
  have WC := Aside0.mk (fun a W h1 => secdata_Word.calls 100 A c l a _ _ W h1 hc (word_eq 100 (by omega) l hby a))
  have RWC := Aside0.mk (fun a W h1 => ravelinref02_Word.calls 100 A c l a _ _ W h1 hc (refWord_eq 100 (by omega) l hby a))
  have AC := Aside0.mk (fun i W => secdata_Arg.calls 100 i high _ _ W (arg_eq 99 i high))
  have RAC := Aside0.mk (fun i W => ravelinref02_Arg.calls 100 i high _ _ W (refArg_eq 99 i high))
  have RFC := Aside0.mk (fun W h1 => refRead A c l hby hl W h1 hc)
  have HH := Aside0.mk (fun he n hn => halves hby he n hn high)
  clear hr hc hl hby hr1 hc1 hl1
  obtain ⟨d, hd⟩ : ∃ d, rD l = d := ⟨_, rfl⟩
  obtain ⟨e0, he0⟩ : ∃ e0, rE l = e0 := ⟨_, rfl⟩
  rw [hd, he0] at HH RFC
  clear hd he0
  go_enter Try.func8, Try.ntmps8
  go_wp2_with fail
  refine (head_calls _).mono ?_
  rintro e w1 ⟨rfl, hb⟩
  have HB1 := Aside0.mk hb
  clear hb
  go_wp2_with fail
  refine (RFC.out _ (Kd.C_below HR0.out HB1.out)).mono ?_
  rintro e w2 ⟨rfl, hb⟩
  have HB2 := Aside0.mk (show Below w.heap.size w (w2.alloc (.cells #[.int .u32 (U d.nr), .int .u32 (U d.arch), .int .u64 (U d.ip), .int .u64 (U d.a0), .int .u64 (U d.a1), .int .u64 (U d.a2), .int .u64 (U d.a3), .int .u64 (U d.a4), .int .u64 (U d.a5)] 26)) from below_alloc (below_step HB1.out hb) _)
  have HG := Aside0.mk (blk_new w2 (.cells #[.int .u32 (U d.nr), .int .u32 (U d.arch), .int .u64 (U d.ip), .int .u64 (U d.a0), .int .u64 (U d.a1), .int .u64 (U d.a2), .int .u64 (U d.a3), .int .u64 (U d.a4), .int .u64 (U d.a5)] 26))
  clear hb HB1 RFC
  go_wp2_with fail
  go_loopw [10] (fun v10 w' => ∃ i : Nat, v10 = .int .i64 i ∧ i ≤ xs.length ∧ Aside0 (w'.heap[w2.heap.size]? = some (.cells #[.int .u32 (U d.nr), .int .u32 (U d.arch), .int .u64 (U d.ip), .int .u64 (U d.a0), .int .u64 (U d.a1), .int .u64 (U d.a2), .int .u64 (U d.a3), .int .u64 (U d.a4), .int .u64 (U d.a5)] 26 (0, 0))) ∧ Aside0 (Below w.heap.size w w')) (fun v10 _ => xs.length - (intOf v10).toNat)
  case atStart => exact ⟨0, rfl, by omega, HG, HB2⟩
  case round =>
    clear HG HB2
    obtain ⟨i, rfl, hi, HG, HB⟩ := hrel
    by_cases hlt : i < xs.length
    · obtain ⟨ad, e120, hx0⟩ := i64_at HP.out i hlt
      cases e120
      have D0 := Aside0.mk hx0
      clear hx0
      generalize xs.getD i 0 = x at D0
      have AT := Aside0.mk (show ∀ W, Below w.heap.size w W → W.cell? (ad.add i) = some (.int .i64 x) from fun W h => (h.cell (World.block_lt_of_cell? w _ D0.out)).trans D0.out)
      clear D0
      have hx0 := AT.out _ HB.out
      go_wp2_with fail
      refine (WC.out x _ (Kd.C_below HR0.out HB.out)).mono ?_
      rintro e w4 ⟨rfl, hb'⟩
      have HB4 := Aside0.mk (below_step HB.out hb'.below)
      have HG4 := Aside0.mk (blk_below HG.out hb'.below)
      clear hb' hx0 HB HG
      have hx0 := AT.out _ HB4.out
      go_wp2_with fail
      refine (RWC.out x _ (Kd.C_below HR0.out HB4.out)).mono ?_
      rintro e w5 ⟨rfl, hb'⟩
      have HB5 := Aside0.mk (below_step HB4.out hb'.below)
      have HG5 := Aside0.mk (blk_below HG4.out hb'.below)
      clear hb' hx0 HB4 HG4
      have hx0 := AT.out _ HB5.out
      go_wp2_with fail
      refine (AC.out x _).mono ?_
      rintro e w6 ⟨rfl, hb'⟩
      have HB6 := Aside0.mk (below_step HB5.out hb'.below)
      have HG6 := Aside0.mk (blk_below HG5.out hb'.below)
      clear hb' hx0 HB5 HG5
      have hx0 := AT.out _ HB6.out
      go_wp2_with fail
      refine (RAC.out x _).mono ?_
      rintro e w7 ⟨rfl, hb'⟩
      have HB7 := Aside0.mk (below_step HB6.out hb'.below)
      have HG7 := Aside0.mk (blk_below HG6.out hb'.below)
      clear hb' hx0 HB6 HG6
      have hL := HL1.out
      by_cases hx : 0 ≤ x ∧ x ≤ 5
      · have ea : aE x = 0 := if_pos hx
        by_cases he : e0 = 0
        · obtain ⟨n, rfl⟩ := Int.eq_ofNat_of_zero_le hx.1
          have hn : n < 6 := by omega
          obtain ⟨h1, h2, h3⟩ := HH.out he n hn
          have d3 := (blk_cell HG7.out (3 + n)).trans (Dt.val3 d n hn)
          have H3 := Aside0.mk h3
          have H2 := Aside0.mk h2
          subst he
          clear h1 h2 h3
          rw [ea]
          clear ea
          have q0 : (0 : Int) ≤ (n : Int) := by omega
          have q1 : (n : Int) < 6 := by omega
          go_wp2_with fail
          refine (WC.out _ _ (Kd.C_below HR0.out HB7.out)).mono ?_
          rintro e w8 ⟨rfl, hb'⟩
          have HB8 := Aside0.mk (below_step HB7.out hb'.below)
          have HG8 := Aside0.mk (blk_below HG7.out hb'.below)
          clear hb' HB7 HG7 d3
          have hx0 := AT.out _ HB8.out
          have d3 := (blk_cell HG8.out (3 + n)).trans (Dt.val3 d n hn)
          cases high
          · have e3 : wW l (aA (n : Int) false) = IntKind.u32.wrap (U (d.arg n)) := H3.out
            rw [e3]
            go_wp2
            exact ⟨⟨i + 1, by go_num, by omega, HG8, HB8⟩, by simp [intOf]; omega⟩
          · have e3 : wW l (aA (n : Int) true) = IntKind.u32.wrap (U (d.arg n >>> 32)) := H3.out
            have hs : U (d.arg n) / 4294967296 = U (d.arg n >>> 32) := shr_U (d.arg n) 32
            rw [e3]
            go_wp2
            exact ⟨⟨i + 1, by go_num, by omega, HG8, HB8⟩, by simp [intOf]; omega⟩
        · have he1 : (e0 == 0) = false := by simpa using he
          have he2 : (e0 != 0) = true := by simpa using he
          rw [ea]
          clear he ea
          go_wp2
          exact ⟨⟨i + 1, by go_num, by omega, HG7, HB7⟩, by simp [intOf]; omega⟩
      · have ea : aE x = 22 := if_neg hx
        rw [ea]
        clear ea hx
        go_wp2
        exact ⟨⟨i + 1, by go_num, by omega, HG7, HB7⟩, by simp [intOf]; omega⟩
    · obtain rfl : i = xs.length := by omega
      go_wp2
      go_ret
      exact ⟨rfl, HB.out⟩
end Go.Proofs.Ytplplillpjnnnaa.WordsWalk
