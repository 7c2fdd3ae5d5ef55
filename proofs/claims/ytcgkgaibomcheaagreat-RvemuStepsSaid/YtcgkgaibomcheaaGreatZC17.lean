/- Joined out of this claim's texts: RM2, RStep, Fill. Conditions: those of each theorem. -/
import Derived.Test.YtcgkgaibomcheaaGreatZC01
import Derived.Test.YtcgkgaibomcheaaGreatZC16
import Derived.Test.YtcgkgaibomcheaaGreatZC15
import Derived.Test.YtcgkgaibomcheaaGreatZC08
import Derived.Test.YtcgkgaibomcheaaGreatZC07
import Derived.Test.YtcgkgaibomcheaaGreatZC13
import Derived.Laws.CopyOwn
set_option linter.unusedVariables false
set_option linter.unusedSimpArgs false
section
namespace Go.Proofs.YtcgkgaibomcheaaGreat.RM2
open Go.RowKit Bits Dec Mac Mb Rd RDec EM RM PRvemuRuns YtcgkgaibomcheaaGreatW.PrintWords YtcgkgaibomcheaaGreatW.PrintLast YtcgkgaibomcheaaGreatW.PrintMore
section
variable {W W' : World} {g : Nat} {m : Mac} {c d f t : Value}
theorem okt_R (h : MR W g m c d f t) : Kd.R k54 54 W 0 (fun k => some k = t.ownBlock ∨ W.heap.size ≤ k) t m.tr := Kd.R_mono h.tr (fun k e => .inl e)
theorem okt_of {W' : World} {t t' : Value} {tr : List S54} (hr : Kd.R k54 54 W' 0 (fun k => some k = t.ownBlock ∨ W.heap.size ≤ k) t' tr) : ∀ k, some k = t'.ownBlock → some k = t.ownBlock ∨ W.heap.size ≤ k := fun k e => hr.1 k e.symm
theorem log (h : MR W g m c d f t) {t' : Value} {x : S54} (hw : Wr (fun k => k = g ∨ some k = t.ownBlock) W W') (hm : MB 76 41 W' g (atTr (vals m c d f t undef) t')) (hr : Kd.R k54 54 W' 0 (fun k => some k = t.ownBlock ∨ W.heap.size ≤ k) t' (m.tr ++ [x])) : LftR W g (note m x) c d f t W' :=
  ⟨f, t', h.write hw.1 (note m x) t' (by rw [← vals_tr m c d f t undef t' x]; exact hm) (TrAt.mk_ hr) rfl rfl, hw, okt_of hr, fun k e => .inl e⟩
theorem bta {w W1 : World} (hb : Below w.heap.size w W1) (o : Obj) : Below w.heap.size w (W1.alloc o) := below_alloc hb o
theorem load_some (h : MR W g m c d f t) (hl : m.tr.length ≤ 1000000000) (a : BitVec 64) (n : Nat) (h1 : 1 ≤ n) (h8 : n ≤ 8) (v : BitVec 64) (hv : loads m a n = some v) :
    Calls Tryz.prog 108 #[.pointer (some ⟨g, 0, none⟩), .int .u64 (U a), .int .i64 (n : Int)] W fun e w' => e = .returned (.tuple #[.int .u64 (U v), .bool true]) ∧ ∃ t', MB 76 41 w' g (atTr (vals m c d f t undef) t') ∧ LftR W g (note m ⟨false, U a, n⟩) c d f t w' ∧ Wr (ownR g t) W w' ∧ vals (note m ⟨false, U a, n⟩) c d f t' undef = atTr (vals m c d f t undef) t' := by
  obtain ⟨gd, cd, d1, d2, d3⟩ := h.data
  obtain ⟨Af, cf, f1, f2, f3⟩ := h.frame
  have hd64 := h.d64
  have hfl := h.fl
  unfold loads at hv
  by_cases hf : fr m.frame.length (U a) n = true
  · rw [if_pos hf] at hv
    obtain rfl := Option.some.inj hv
    unfold fr at hf
    have hin := of_decide_eq_true hf
    rcases f3 with f3 | ⟨b, rfl, hb⟩
    · rw [f3] at hin
      simp only [List.length_nil] at hin
      omega
    refine (RLoad.stack_ 0 g (vals m c d f t undef) t m.tr (fun k => some k = t.ownBlock ∨ W.heap.size ≤ k) b cf m.frame (U a) n W h.mb rfl (okt_R h) (fun k hk => .inr hk) (Nat.zero_le _) hl hb h.bf f2 hfl h1 h8 (ty_ne (row_typed hb) (mbt h.mb) (by decide)) (U_nonneg a) (U_lt a) f1 (fun hd => ?_) hin).mono ?_
    · obtain ⟨e1, e2⟩ := hd
      omega
    · rintro e w' ⟨rfl, t', k1, k2, k3⟩
      exact ⟨rfl, t', k1, log h k3 k1 k2, k3, (vals_tr m c d f t undef t' _).symm⟩
  · rw [if_neg hf] at hv
    by_cases hd : da (U a) n = true
    · rw [if_pos hd] at hv
      obtain rfl := Option.some.inj hv
      unfold da at hd
      have hin := of_decide_eq_true hd
      refine (RLoad.data_ 0 g (vals m c d f t undef) t m.tr (fun k => some k = t.ownBlock ∨ W.heap.size ≤ k) gd cd m.data (U a) n W h.mb rfl (okt_R h) (fun k hk => .inr hk) (Nat.zero_le _) hl d3 h.bd (by omega) (by omega) h1 h8 (ty_ne (row_typed d3) (mbt h.mb) (by decide)) (U_nonneg a) (U_lt a) (by rw [hd64]; exact d1) hin hd64 Af m.frame.length cf f1 hfl).mono ?_
      rintro e w' ⟨rfl, t', k1, k2, k3⟩
      exact ⟨rfl, t', k1, log h k3 k1 k2, k3, (vals_tr m c d f t undef t' _).symm⟩
    · rw [if_neg hd] at hv
      cases hv
theorem load_none (h : MR W g m c d f t) (a : BitVec 64) (n : Nat) (h1 : 1 ≤ n) (h8 : n ≤ 8) (hv : loads m a n = none) :
    Calls Tryz.prog 108 #[.pointer (some ⟨g, 0, none⟩), .int .u64 (U a), .int .i64 (n : Int)] W fun e w' => e = .returned (.tuple #[.int .u64 0, .bool false]) ∧ Below W.heap.size W w' := by
  obtain ⟨Af, cf, f1, f2, f3⟩ := h.frame
  unfold loads at hv
  have hf : ¬ Reg.inFrame m.frame.length (U a) n := fun hf => by
    rw [if_pos (show fr m.frame.length (U a) n = true from decide_eq_true hf)] at hv
    cases hv
  have hd : ¬ Reg.inData (U a) n := fun hd => by
    split at hv
    · cases hv
    · rw [if_pos (show da (U a) n = true from decide_eq_true hd)] at hv
      cases hv
  exact RLoad.none_ g _ Af m.frame.length cf (U a) n W h.mb f1 h.fl (U_nonneg a) (U_lt a) h1 h8 hd hf
theorem vals_st (m : Mac) (c d f t q t' f' : Value) (l : List Int) (e : S54) : RStore.atSt (atTr (vals m c d f t q) t') f' = vals (note (setf m l) e) c d f' t' q := by
  funext i
  unfold RStore.atSt
  by_cases h : i = 2
  · subst h; rfl
  · rw [if_neg h]
    unfold atTr vals note setf
    by_cases h2 : i = 40
    · subst h2; rfl
    · rw [if_neg h2]
      simp only [if_neg h, if_neg h2]
theorem store_some (h : MR W g m c d f t) (hl : m.tr.length ≤ 1000000000) (a b : BitVec 64) (n : Nat) (h1 : 1 ≤ n) (h8 : n ≤ 8) (hf : fr m.frame.length (U a) n = true) :
    Calls Tryz.prog 92 #[.pointer (some ⟨g, 0, none⟩), .int .u64 (U a), .int .i64 (n : Int), .int .u64 (U b)] W fun e w' => e = .returned (.bool true) ∧ ∃ v', MB 76 41 w' g v' ∧ v' 35 = .int .u64 (U m.pc) ∧ LftR W g (note (setf m (st m.frame (U a - (2147418112 - (m.frame.length : Int))).toNat b n)) ⟨true, U a, n⟩) c d f t w' := by
  obtain ⟨gd, cd, d1, d2, d3⟩ := h.data
  obtain ⟨Af, cf, f1, f2, f3⟩ := h.frame
  unfold fr at hf
  have hin := of_decide_eq_true hf
  have hfl := h.fl
  rcases f3 with f3 | ⟨gb, rfl, hb⟩
  · rw [f3] at hin
    simp only [List.length_nil] at hin
    omega
  have hgb : gb ≠ g := ty_ne (row_typed hb) (mbt h.mb) (by decide)
  refine (RStore.store_ 0 g (vals m c d f t undef) t m.tr (fun k => some k = t.ownBlock ∨ W.heap.size ≤ k) gb cf m.frame (U a) n b W h.mb rfl (okt_R h) (fun k hk => .inr hk) (Nat.zero_le _) hl hb h.bf f2 hfl h1 h8 hgb (U_nonneg a) (U_lt a) f1 hin).mono ?_
  rintro e w' ⟨rfl, t', gb', cb', k1, k2, k3, k4, k5, k6⟩
  have hlen := st_length m.frame (U a - (2147418112 - (m.frame.length : Int))).toNat b n
  rw [vals_st m c d f t undef t' (.slice (some ⟨gb', 0, none⟩) m.frame.length cb') (st m.frame (U a - (2147418112 - (m.frame.length : Int))).toNat b n) ⟨true, U a, n⟩] at k1
  refine ⟨rfl, _, k1, rfl, .slice (some ⟨gb', 0, none⟩) m.frame.length cb', t', ?_, k6, okt_of k2, fun k e => ?_⟩
  · exact {
      mb := k1
      tr := TrAt.mk_ k2
      data := ⟨gd, cd, d1, d2, d3.of (k6.1.2 gd d3.lt (fun e => (h.data_own gd e).1 (by rw [d1]; simp [Value.ownBlock])))⟩
      frame := ⟨_, cb', by rw [show (note (setf m (st m.frame (U a - (2147418112 - (m.frame.length : Int))).toNat b n)) ⟨true, U a, n⟩).frame.length = m.frame.length from hlen], by rw [show (note (setf m (st m.frame (U a - (2147418112 - (m.frame.length : Int))).toNat b n)) ⟨true, U a, n⟩).frame.length = m.frame.length from hlen]; exact k4, .inr ⟨gb', rfl, k3⟩⟩
      fty := fun k e => by
        have e : k = gb' := by simpa [Value.ownBlock] using e
        rw [e]
        exact row_typed k3
      d64 := h.d64
      fl := by rw [show (note (setf m (st m.frame (U a - (2147418112 - (m.frame.length : Int))).toNat b n)) ⟨true, U a, n⟩).frame.length = m.frame.length from hlen]; exact hfl
      bd := h.bd
      bf := st_bytes h.bf _ _ _ }
  · have e : k = gb' := by simpa [Value.ownBlock] using e
    rw [e]
    exact .inr k5
theorem store_none (h : MR W g m c d f t) (a b : BitVec 64) (n : Nat) (h1 : 1 ≤ n) (h8 : n ≤ 8) (hf : ¬ fr m.frame.length (U a) n = true) :
    Calls Tryz.prog 92 #[.pointer (some ⟨g, 0, none⟩), .int .u64 (U a), .int .i64 (n : Int), .int .u64 (U b)] W fun e w' => e = .returned (.bool false) ∧ Below W.heap.size W w' := by
  obtain ⟨Af, cf, f1, f2, f3⟩ := h.frame
  exact RStore.none_ g _ Af m.frame.length cf (U a) n b W h.mb f1 h.fl (U_nonneg a) (U_lt a) h1 h8 (fun hh => hf (decide_eq_true hh))
def RP (m : Mac) (n wd : Nat) (W : World) (g : Nat) (c d f t : Value) (e : Ending) (w' : World) : Prop := ∃ q0 : Int, e = .returned (.tuple #[.int .u64 q0, .int .i64 (does m n wd).2]) ∧ ((does m n wd).2 = 0 → q0 = U (does m n wd).1.pc) ∧ LftR W g (setpc (does m n wd).1 m.pc) c d f t w'
theorem row_of (n : Nat) (h0 : 1 ≤ n) (h1 : n ≤ 34) : ravelinref15_Find.f 40 (n : Int) = some ((Find.rowOf n).f0, (Find.rowOf n).f1, (Find.rowOf n).f2, (Find.rowOf n).f3, (Find.rowOf n).f4, (Find.rowOf n).f5, true) ∧ (Find.rowOf n).f1 = ((formOf n : Nat) : Int) := by
  have h := Find.find_eq ⟨n - 1, by omega⟩
  have k := (Enc.row_eq ⟨n - 1, by omega⟩).2.1
  simp only [show n - 1 + 1 = n by omega] at h k
  exact ⟨h, k⟩
theorem reg_vals (m : Mac) (c d f t q : Value) (rd : Nat) (r : BitVec 64) (hrd : rd < 32) : ROne.reg (vals m c d f t q) rd r = vals (setx m rd r) c d f t q := by
  unfold ROne.reg
  by_cases h : rd = 0
  · rw [if_pos h]
    unfold setx
    rw [if_pos h]
  · rw [if_neg h]
    exact vals_setx m c d f t q rd r hrd h
theorem setx_pc (m : Mac) (rd : Nat) (r p : BitVec 64) : setpc (setx m rd r) p = setx (setpc m p) rd r := by unfold setx; split <;> rfl
theorem setpc2 (m : Mac) (p q : BitVec 64) : setpc (setpc m p) q = setpc m q := rfl
theorem setpc_self (m : Mac) : setpc m m.pc = m := rfl
theorem left_reg (h : MR W g m c d f t) (rd : Nat) (hrd : rd < 32) (r : BitVec 64) (hm : MB 76 41 W' g (ROne.reg (vals m c d f t undef) rd r)) (ho : Only g W W') : LftR W g (setx m rd r) c d f t W' := by
  rw [reg_vals m c d f t undef rd r hrd] at hm
  exact left_only h ho _ hm (EDo.setx_tr _ _ _) (EDo.setx_data _ _ _) (EDo.setx_frame _ _ _)
theorem does_two (h : MR W g m c d f t) (n wd : Nat) (h0 : 16 ≤ n) (h1 : n ≤ 28) : Calls Tryz.prog 45 #[.pointer (some ⟨g, 0, none⟩), insOf n wd] W fun e w' => RP m n wd W g c d f t e w' := by
  obtain ⟨hr, hf⟩ := row_of n (by omega) (by omega)
  have h6 : formOf n = 6 := by
    have : n = 16 ∨ n = 17 ∨ n = 18 ∨ n = 19 ∨ n = 20 ∨ n = 21 ∨ n = 22 ∨ n = 23 ∨ n = 24 ∨ n = 25 ∨ n = 26 ∨ n = 27 ∨ n = 28 := by omega
    rcases this with rfl | rfl | rfl | rfl | rfl | rfl | rfl | rfl | rfl | rfl | rfl | rfl | rfl <;> rfl
  refine (RDoes.does_R g (vals m c d f t undef) n (fdOf n wd) (fs1Of n wd) (fs2Of n wd) (immOf (formOf n) wd) m.pc (ra m n wd) (rb m n wd) W h.mb rfl (rd_lt n wd) (rs1_lt n wd) (rs2_lt n wd) (vals_x _ _ _ _ _ _ _ (rs1_lt n wd)) (vals_x _ _ _ _ _ _ _ (rs2_lt n wd)) h0 h1 _ hr (by rw [hf, h6]; rfl)).mono ?_
  intro e w' hp
  unfold RP does
  rw [if_neg (by omega), if_neg (by omega), if_neg (by omega), if_pos h1]
  unfold RDoes.RPost at hp
  cases hv : RTwo.two n (ra m n wd) (rb m n wd) with
  | none =>
    rw [hv] at hp
    obtain ⟨rfl, a1, a2⟩ := hp
    exact ⟨0, rfl, fun hh => absurd (show (8 : Int) = 0 from hh) (by decide), left_only h a2 m a1 rfl rfl rfl⟩
  | some v =>
    rw [hv] at hp
    obtain ⟨rfl, a1, a2⟩ := hp
    refine ⟨U (m.pc + 4#64), rfl, fun _ => ?_, ?_⟩
    · show _ = U (setx (setpc m (m.pc + 4#64)) (fdOf n wd) v).pc
      unfold setx
      split <;> rfl
    · show LftR W g (setpc (setx (setpc m (m.pc + 4#64)) (fdOf n wd) v) m.pc) c d f t w'
      rw [setx_pc, setpc2, setpc_self]
      exact left_reg h _ (rd_lt n wd) v a1 a2
theorem does_br (h : MR W g m c d f t) (n wd : Nat) (h0 : 29 ≤ n) (h1 : n ≤ 32) : Calls Tryz.prog 45 #[.pointer (some ⟨g, 0, none⟩), insOf n wd] W fun e w' => RP m n wd W g c d f t e w' := by
  obtain ⟨hr, hf⟩ := row_of n (by omega) (by omega)
  have h7 : formOf n = 7 := by
    have : n = 29 ∨ n = 30 ∨ n = 31 ∨ n = 32 := by omega
    rcases this with rfl | rfl | rfl | rfl <;> rfl
  refine (RDoes2.does_B g (vals m c d f t undef) n (fdOf n wd) (fs1Of n wd) (fs2Of n wd) (immOf (formOf n) wd) m.pc (ra m n wd) (rb m n wd) W h.mb rfl (rd_lt n wd) (rs1_lt n wd) (rs2_lt n wd) (vals_x _ _ _ _ _ _ _ (rs1_lt n wd)) (vals_x _ _ _ _ _ _ _ (rs2_lt n wd)) h0 h1 _ hr (by rw [hf, h7]; rfl)).mono ?_
  rintro e w' ⟨rfl, a1, a2⟩
  unfold RP does
  rw [if_neg (by omega), if_neg (by omega), if_neg (by omega), if_neg (by omega), if_pos h1]
  exact ⟨_, rfl, fun _ => rfl, left_only h a2 m a1 rfl rfl rfl⟩
theorem does_jal (h : MR W g m c d f t) (wd : Nat) : Calls Tryz.prog 45 #[.pointer (some ⟨g, 0, none⟩), insOf 33 wd] W fun e w' => RP m 33 wd W g c d f t e w' := by
  obtain ⟨hr, hf⟩ := row_of 33 (by omega) (by omega)
  refine (RDoes2.does_J g (vals m c d f t undef) 33 (fdOf 33 wd) (fs1Of 33 wd) (fs2Of 33 wd) (immOf (formOf 33) wd) m.pc (ra m 33 wd) (rb m 33 wd) W h.mb rfl (rd_lt 33 wd) (rs1_lt 33 wd) (rs2_lt 33 wd) (vals_x _ _ _ _ _ _ _ (rs1_lt 33 wd)) (vals_x _ _ _ _ _ _ _ (rs2_lt 33 wd)) (by omega) (by omega) _ hr hf).mono ?_
  rintro e w' ⟨rfl, a1, a2⟩
  unfold RP does
  rw [if_neg (by omega), if_neg (by omega), if_neg (by omega), if_neg (by omega), if_neg (by omega), if_pos rfl]
  refine ⟨_, rfl, fun _ => ?_, ?_⟩
  · show _ = U (setx (setpc m (m.pc + im 33 wd)) (fdOf 33 wd) (m.pc + 4#64)).pc
    unfold setx
    split <;> rfl
  · show LftR W g (setpc (setx (setpc m (m.pc + im 33 wd)) (fdOf 33 wd) (m.pc + 4#64)) m.pc) c d f t w'
    rw [setx_pc, setpc2, setpc_self]
    exact left_reg h _ (rd_lt 33 wd) _ a1 a2
theorem does_s14 (h : MR W g m c d f t) (hl : m.tr.length ≤ 1000000000) (wd : Nat) : Calls Tryz.prog 45 #[.pointer (some ⟨g, 0, none⟩), insOf 14 wd] W fun e w' => RP m 14 wd W g c d f t e w' := by
  obtain ⟨hr, hf⟩ := row_of 14 (by omega) (by omega)
  by_cases hv : fr m.frame.length (U (ra m 14 wd + im 14 wd)) 8 = true
  · refine (RDoes2.does_S14 g (vals m c d f t undef) 14 (fdOf 14 wd) (fs1Of 14 wd) (fs2Of 14 wd) (immOf (formOf 14) wd) m.pc (ra m 14 wd) (rb m 14 wd) W h.mb rfl (rd_lt 14 wd) (rs1_lt 14 wd) (rs2_lt 14 wd) (vals_x _ _ _ _ _ _ _ (rs1_lt 14 wd)) (vals_x _ _ _ _ _ _ _ (rs2_lt 14 wd)) (by omega) (by omega) _ hr hf
      (fun W1 _ w' => LftR W1 g (note (setf m (st m.frame (U (ra m 14 wd + im 14 wd) - (2147418112 - (m.frame.length : Int))).toNat (rb m 14 wd) 8)) ⟨true, U (ra m 14 wd + im 14 wd), ((8 : Nat) : Int)⟩) c d f t w') (fun W1 hb => store_some (h.below hb) hl (ra m 14 wd + im 14 wd) (rb m 14 wd) 8 (by omega) (by omega) hv)).mono ?_
    rintro e w' ⟨rfl, W1, v', hb, hx⟩
    unfold RP does
    rw [if_neg (by omega), if_neg (by omega), if_pos (by omega), if_pos (show fr m.frame.length (U (ra m 14 wd + im 14 wd)) (sz 14) = true from hv)]
    exact ⟨_, rfl, fun _ => rfl, lft_below hb hx⟩
  · refine (RDoes2.does_S14_no g (vals m c d f t undef) 14 (fdOf 14 wd) (fs1Of 14 wd) (fs2Of 14 wd) (immOf (formOf 14) wd) m.pc (ra m 14 wd) (rb m 14 wd) W h.mb rfl (rd_lt 14 wd) (rs1_lt 14 wd) (rs2_lt 14 wd) (vals_x _ _ _ _ _ _ _ (rs1_lt 14 wd)) (vals_x _ _ _ _ _ _ _ (rs2_lt 14 wd)) (by omega) (by omega) _ hr hf
      (fun W1 hb hm => store_none (h.below hb) (ra m 14 wd + im 14 wd) (rb m 14 wd) 8 (by omega) (by omega) hv)).mono ?_
    rintro e w' ⟨rfl, a1, a2⟩
    unfold RP does
    rw [if_neg (by omega), if_neg (by omega), if_pos (by omega), if_neg (show ¬ fr m.frame.length (U (ra m 14 wd + im 14 wd)) (sz 14) = true from hv)]
    exact ⟨_, rfl, fun hh => absurd (show (7 : Int) = 0 from hh) (by decide), left_only h a2 m a1 rfl rfl rfl⟩
theorem does_s15 (h : MR W g m c d f t) (hl : m.tr.length ≤ 1000000000) (wd : Nat) : Calls Tryz.prog 45 #[.pointer (some ⟨g, 0, none⟩), insOf 15 wd] W fun e w' => RP m 15 wd W g c d f t e w' := by
  obtain ⟨hr, hf⟩ := row_of 15 (by omega) (by omega)
  by_cases hv : fr m.frame.length (U (ra m 15 wd + im 15 wd)) 4 = true
  · refine (RDoes2.does_S15 g (vals m c d f t undef) 15 (fdOf 15 wd) (fs1Of 15 wd) (fs2Of 15 wd) (immOf (formOf 15) wd) m.pc (ra m 15 wd) (rb m 15 wd) W h.mb rfl (rd_lt 15 wd) (rs1_lt 15 wd) (rs2_lt 15 wd) (vals_x _ _ _ _ _ _ _ (rs1_lt 15 wd)) (vals_x _ _ _ _ _ _ _ (rs2_lt 15 wd)) (by omega) (by omega) _ hr hf
      (fun W1 _ w' => LftR W1 g (note (setf m (st m.frame (U (ra m 15 wd + im 15 wd) - (2147418112 - (m.frame.length : Int))).toNat (rb m 15 wd) 4)) ⟨true, U (ra m 15 wd + im 15 wd), ((4 : Nat) : Int)⟩) c d f t w') (fun W1 hb => store_some (h.below hb) hl (ra m 15 wd + im 15 wd) (rb m 15 wd) 4 (by omega) (by omega) hv)).mono ?_
    rintro e w' ⟨rfl, W1, v', hb, hx⟩
    unfold RP does
    rw [if_neg (by omega), if_neg (by omega), if_pos (by omega), if_pos (show fr m.frame.length (U (ra m 15 wd + im 15 wd)) (sz 15) = true from hv)]
    exact ⟨_, rfl, fun _ => rfl, lft_below hb hx⟩
  · refine (RDoes2.does_S15_no g (vals m c d f t undef) 15 (fdOf 15 wd) (fs1Of 15 wd) (fs2Of 15 wd) (immOf (formOf 15) wd) m.pc (ra m 15 wd) (rb m 15 wd) W h.mb rfl (rd_lt 15 wd) (rs1_lt 15 wd) (rs2_lt 15 wd) (vals_x _ _ _ _ _ _ _ (rs1_lt 15 wd)) (vals_x _ _ _ _ _ _ _ (rs2_lt 15 wd)) (by omega) (by omega) _ hr hf
      (fun W1 hb hm => store_none (h.below hb) (ra m 15 wd + im 15 wd) (rb m 15 wd) 4 (by omega) (by omega) hv)).mono ?_
    rintro e w' ⟨rfl, a1, a2⟩
    unfold RP does
    rw [if_neg (by omega), if_neg (by omega), if_pos (by omega), if_neg (show ¬ fr m.frame.length (U (ra m 15 wd + im 15 wd)) (sz 15) = true from hv)]
    exact ⟨_, rfl, fun hh => absurd (show (7 : Int) = 0 from hh) (by decide), left_only h a2 m a1 rfl rfl rfl⟩
theorem does_o1 (h : MR W g m c d f t) (wd : Nat) : Calls Tryz.prog 45 #[.pointer (some ⟨g, 0, none⟩), insOf 1 wd] W fun e w' => RP m 1 wd W g c d f t e w' := by
  obtain ⟨hr, hf⟩ := row_of 1 (by omega) (by omega)
  refine (RDoes2.does_I1 g (vals m c d f t undef) 1 (fdOf 1 wd) (fs1Of 1 wd) (fs2Of 1 wd) (immOf (formOf 1) wd) m.pc (ra m 1 wd) (rb m 1 wd) W h.mb rfl (rd_lt 1 wd) (rs1_lt 1 wd) (rs2_lt 1 wd) (vals_x _ _ _ _ _ _ _ (rs1_lt 1 wd)) (vals_x _ _ _ _ _ _ _ (rs2_lt 1 wd)) (by omega) (by omega) _ hr hf
    (fun W1 q0 q1 w' => q0 = U (m.pc + 4#64) ∧ q1 = 0 ∧ LftR W1 g (setx m (fdOf 1 wd) (oneV 1 (ra m 1 wd) (im 1 wd))) c d f t w') (fun W1 hb hm => (ROne.one_1 g (vals m c d f t undef) (fdOf 1 wd) _ _ _ m.pc (ra m 1 wd) (im 1 wd) W1 hm rfl (rd_lt 1 wd)).mono (fun e w' hh => ⟨_, _, hh.1, rfl, rfl, by rw [EDo2.one_1]; exact left_reg (h.below hb) _ (rd_lt 1 wd) _ hh.2.1 hh.2.2⟩))).mono ?_
  rintro e w' ⟨q0, q1, W1, rfl, hb, rfl, rfl, hx⟩
  unfold RP does
  rw [if_pos (by omega)]
  refine ⟨_, rfl, fun _ => ?_, ?_⟩
  · show _ = U (setx (setpc m (m.pc + 4#64)) (fdOf 1 wd) _).pc
    unfold setx
    split <;> rfl
  · show LftR W g (setpc (setx (setpc m (m.pc + 4#64)) (fdOf 1 wd) _) m.pc) c d f t w'
    rw [setx_pc, setpc2, setpc_self]
    exact lft_below hb hx
theorem does_o2 (h : MR W g m c d f t) (wd : Nat) : Calls Tryz.prog 45 #[.pointer (some ⟨g, 0, none⟩), insOf 2 wd] W fun e w' => RP m 2 wd W g c d f t e w' := by
  obtain ⟨hr, hf⟩ := row_of 2 (by omega) (by omega)
  refine (RDoes2.does_I2 g (vals m c d f t undef) 2 (fdOf 2 wd) (fs1Of 2 wd) (fs2Of 2 wd) (immOf (formOf 2) wd) m.pc (ra m 2 wd) (rb m 2 wd) W h.mb rfl (rd_lt 2 wd) (rs1_lt 2 wd) (rs2_lt 2 wd) (vals_x _ _ _ _ _ _ _ (rs1_lt 2 wd)) (vals_x _ _ _ _ _ _ _ (rs2_lt 2 wd)) (by omega) (by omega) _ hr hf
    (fun W1 q0 q1 w' => q0 = U (m.pc + 4#64) ∧ q1 = 0 ∧ LftR W1 g (setx m (fdOf 2 wd) (oneV 2 (ra m 2 wd) (im 2 wd))) c d f t w') (fun W1 hb hm => (ROne.one_2 g (vals m c d f t undef) (fdOf 2 wd) _ _ _ m.pc (ra m 2 wd) (im 2 wd) W1 hm rfl (rd_lt 2 wd)).mono (fun e w' hh => ⟨_, _, hh.1, rfl, rfl, by rw [EDo2.one_2]; exact left_reg (h.below hb) _ (rd_lt 2 wd) _ hh.2.1 hh.2.2⟩))).mono ?_
  rintro e w' ⟨q0, q1, W1, rfl, hb, rfl, rfl, hx⟩
  unfold RP does
  rw [if_pos (by omega)]
  refine ⟨_, rfl, fun _ => ?_, ?_⟩
  · show _ = U (setx (setpc m (m.pc + 4#64)) (fdOf 2 wd) _).pc
    unfold setx
    split <;> rfl
  · show LftR W g (setpc (setx (setpc m (m.pc + 4#64)) (fdOf 2 wd) _) m.pc) c d f t w'
    rw [setx_pc, setpc2, setpc_self]
    exact lft_below hb hx
theorem does_o3 (h : MR W g m c d f t) (wd : Nat) : Calls Tryz.prog 45 #[.pointer (some ⟨g, 0, none⟩), insOf 3 wd] W fun e w' => RP m 3 wd W g c d f t e w' := by
  obtain ⟨hr, hf⟩ := row_of 3 (by omega) (by omega)
  refine (RDoes2.does_I2 g (vals m c d f t undef) 3 (fdOf 3 wd) (fs1Of 3 wd) (fs2Of 3 wd) (immOf (formOf 3) wd) m.pc (ra m 3 wd) (rb m 3 wd) W h.mb rfl (rd_lt 3 wd) (rs1_lt 3 wd) (rs2_lt 3 wd) (vals_x _ _ _ _ _ _ _ (rs1_lt 3 wd)) (vals_x _ _ _ _ _ _ _ (rs2_lt 3 wd)) (by omega) (by omega) _ hr hf
    (fun W1 q0 q1 w' => q0 = U (m.pc + 4#64) ∧ q1 = 0 ∧ LftR W1 g (setx m (fdOf 3 wd) (oneV 3 (ra m 3 wd) (im 3 wd))) c d f t w') (fun W1 hb hm => (ROne.one_3 g (vals m c d f t undef) (fdOf 3 wd) _ _ _ m.pc (ra m 3 wd) (im 3 wd) W1 hm rfl (rd_lt 3 wd)).mono (fun e w' hh => ⟨_, _, hh.1, rfl, rfl, by rw [EDo2.one_3]; exact left_reg (h.below hb) _ (rd_lt 3 wd) _ hh.2.1 hh.2.2⟩))).mono ?_
  rintro e w' ⟨q0, q1, W1, rfl, hb, rfl, rfl, hx⟩
  unfold RP does
  rw [if_pos (by omega)]
  refine ⟨_, rfl, fun _ => ?_, ?_⟩
  · show _ = U (setx (setpc m (m.pc + 4#64)) (fdOf 3 wd) _).pc
    unfold setx
    split <;> rfl
  · show LftR W g (setpc (setx (setpc m (m.pc + 4#64)) (fdOf 3 wd) _) m.pc) c d f t w'
    rw [setx_pc, setpc2, setpc_self]
    exact lft_below hb hx
theorem does_o4 (h : MR W g m c d f t) (wd : Nat) : Calls Tryz.prog 45 #[.pointer (some ⟨g, 0, none⟩), insOf 4 wd] W fun e w' => RP m 4 wd W g c d f t e w' := by
  obtain ⟨hr, hf⟩ := row_of 4 (by omega) (by omega)
  refine (RDoes2.does_I2 g (vals m c d f t undef) 4 (fdOf 4 wd) (fs1Of 4 wd) (fs2Of 4 wd) (immOf (formOf 4) wd) m.pc (ra m 4 wd) (rb m 4 wd) W h.mb rfl (rd_lt 4 wd) (rs1_lt 4 wd) (rs2_lt 4 wd) (vals_x _ _ _ _ _ _ _ (rs1_lt 4 wd)) (vals_x _ _ _ _ _ _ _ (rs2_lt 4 wd)) (by omega) (by omega) _ hr hf
    (fun W1 q0 q1 w' => q0 = U (m.pc + 4#64) ∧ q1 = 0 ∧ LftR W1 g (setx m (fdOf 4 wd) (oneV 4 (ra m 4 wd) (im 4 wd))) c d f t w') (fun W1 hb hm => (ROne.one_4 g (vals m c d f t undef) (fdOf 4 wd) _ _ _ m.pc (ra m 4 wd) (im 4 wd) W1 hm rfl (rd_lt 4 wd)).mono (fun e w' hh => ⟨_, _, hh.1, rfl, rfl, by rw [EDo2.one_4]; exact left_reg (h.below hb) _ (rd_lt 4 wd) _ hh.2.1 hh.2.2⟩))).mono ?_
  rintro e w' ⟨q0, q1, W1, rfl, hb, rfl, rfl, hx⟩
  unfold RP does
  rw [if_pos (by omega)]
  refine ⟨_, rfl, fun _ => ?_, ?_⟩
  · show _ = U (setx (setpc m (m.pc + 4#64)) (fdOf 4 wd) _).pc
    unfold setx
    split <;> rfl
  · show LftR W g (setpc (setx (setpc m (m.pc + 4#64)) (fdOf 4 wd) _) m.pc) c d f t w'
    rw [setx_pc, setpc2, setpc_self]
    exact lft_below hb hx
theorem does_o5 (h : MR W g m c d f t) (wd : Nat) : Calls Tryz.prog 45 #[.pointer (some ⟨g, 0, none⟩), insOf 5 wd] W fun e w' => RP m 5 wd W g c d f t e w' := by
  obtain ⟨hr, hf⟩ := row_of 5 (by omega) (by omega)
  refine (RDoes2.does_I2 g (vals m c d f t undef) 5 (fdOf 5 wd) (fs1Of 5 wd) (fs2Of 5 wd) (immOf (formOf 5) wd) m.pc (ra m 5 wd) (rb m 5 wd) W h.mb rfl (rd_lt 5 wd) (rs1_lt 5 wd) (rs2_lt 5 wd) (vals_x _ _ _ _ _ _ _ (rs1_lt 5 wd)) (vals_x _ _ _ _ _ _ _ (rs2_lt 5 wd)) (by omega) (by omega) _ hr hf
    (fun W1 q0 q1 w' => q0 = U (m.pc + 4#64) ∧ q1 = 0 ∧ LftR W1 g (setx m (fdOf 5 wd) (oneV 5 (ra m 5 wd) (im 5 wd))) c d f t w') (fun W1 hb hm => (ROne.one_5 g (vals m c d f t undef) (fdOf 5 wd) _ _ _ m.pc (ra m 5 wd) (im 5 wd) W1 hm rfl (rd_lt 5 wd)).mono (fun e w' hh => ⟨_, _, hh.1, rfl, rfl, by rw [EDo2.one_5]; exact left_reg (h.below hb) _ (rd_lt 5 wd) _ hh.2.1 hh.2.2⟩))).mono ?_
  rintro e w' ⟨q0, q1, W1, rfl, hb, rfl, rfl, hx⟩
  unfold RP does
  rw [if_pos (by omega)]
  refine ⟨_, rfl, fun _ => ?_, ?_⟩
  · show _ = U (setx (setpc m (m.pc + 4#64)) (fdOf 5 wd) _).pc
    unfold setx
    split <;> rfl
  · show LftR W g (setpc (setx (setpc m (m.pc + 4#64)) (fdOf 5 wd) _) m.pc) c d f t w'
    rw [setx_pc, setpc2, setpc_self]
    exact lft_below hb hx
theorem does_o6 (h : MR W g m c d f t) (wd : Nat) : Calls Tryz.prog 45 #[.pointer (some ⟨g, 0, none⟩), insOf 6 wd] W fun e w' => RP m 6 wd W g c d f t e w' := by
  obtain ⟨hr, hf⟩ := row_of 6 (by omega) (by omega)
  refine (RDoes2.does_I2 g (vals m c d f t undef) 6 (fdOf 6 wd) (fs1Of 6 wd) (fs2Of 6 wd) (immOf (formOf 6) wd) m.pc (ra m 6 wd) (rb m 6 wd) W h.mb rfl (rd_lt 6 wd) (rs1_lt 6 wd) (rs2_lt 6 wd) (vals_x _ _ _ _ _ _ _ (rs1_lt 6 wd)) (vals_x _ _ _ _ _ _ _ (rs2_lt 6 wd)) (by omega) (by omega) _ hr hf
    (fun W1 q0 q1 w' => q0 = U (m.pc + 4#64) ∧ q1 = 0 ∧ LftR W1 g (setx m (fdOf 6 wd) (oneV 6 (ra m 6 wd) (im 6 wd))) c d f t w') (fun W1 hb hm => (ROne.one_6 g (vals m c d f t undef) (fdOf 6 wd) _ _ _ m.pc (ra m 6 wd) (im 6 wd) W1 hm rfl (rd_lt 6 wd)).mono (fun e w' hh => ⟨_, _, hh.1, rfl, rfl, by rw [EDo2.one_6]; exact left_reg (h.below hb) _ (rd_lt 6 wd) _ hh.2.1 hh.2.2⟩))).mono ?_
  rintro e w' ⟨q0, q1, W1, rfl, hb, rfl, rfl, hx⟩
  unfold RP does
  rw [if_pos (by omega)]
  refine ⟨_, rfl, fun _ => ?_, ?_⟩
  · show _ = U (setx (setpc m (m.pc + 4#64)) (fdOf 6 wd) _).pc
    unfold setx
    split <;> rfl
  · show LftR W g (setpc (setx (setpc m (m.pc + 4#64)) (fdOf 6 wd) _) m.pc) c d f t w'
    rw [setx_pc, setpc2, setpc_self]
    exact lft_below hb hx
theorem does_o7 (h : MR W g m c d f t) (wd : Nat) : Calls Tryz.prog 45 #[.pointer (some ⟨g, 0, none⟩), insOf 7 wd] W fun e w' => RP m 7 wd W g c d f t e w' := by
  obtain ⟨hr, hf⟩ := row_of 7 (by omega) (by omega)
  refine (RDoes2.does_I3 g (vals m c d f t undef) 7 (fdOf 7 wd) (fs1Of 7 wd) (fs2Of 7 wd) (immOf (formOf 7) wd) m.pc (ra m 7 wd) (rb m 7 wd) W h.mb rfl (rd_lt 7 wd) (rs1_lt 7 wd) (rs2_lt 7 wd) (vals_x _ _ _ _ _ _ _ (rs1_lt 7 wd)) (vals_x _ _ _ _ _ _ _ (rs2_lt 7 wd)) (by omega) (by omega) _ hr hf
    (fun W1 q0 q1 w' => q0 = U (m.pc + 4#64) ∧ q1 = 0 ∧ LftR W1 g (setx m (fdOf 7 wd) (oneV 7 (ra m 7 wd) (im 7 wd))) c d f t w') (fun W1 hb hm => (ROne.one_7 g (vals m c d f t undef) (fdOf 7 wd) _ _ _ m.pc (ra m 7 wd) (im 7 wd) W1 hm rfl (rd_lt 7 wd)).mono (fun e w' hh => ⟨_, _, hh.1, rfl, rfl, by rw [EDo2.one_7]; exact left_reg (h.below hb) _ (rd_lt 7 wd) _ hh.2.1 hh.2.2⟩))).mono ?_
  rintro e w' ⟨q0, q1, W1, rfl, hb, rfl, rfl, hx⟩
  unfold RP does
  rw [if_pos (by omega)]
  refine ⟨_, rfl, fun _ => ?_, ?_⟩
  · show _ = U (setx (setpc m (m.pc + 4#64)) (fdOf 7 wd) _).pc
    unfold setx
    split <;> rfl
  · show LftR W g (setpc (setx (setpc m (m.pc + 4#64)) (fdOf 7 wd) _) m.pc) c d f t w'
    rw [setx_pc, setpc2, setpc_self]
    exact lft_below hb hx
theorem does_o8 (h : MR W g m c d f t) (wd : Nat) : Calls Tryz.prog 45 #[.pointer (some ⟨g, 0, none⟩), insOf 8 wd] W fun e w' => RP m 8 wd W g c d f t e w' := by
  obtain ⟨hr, hf⟩ := row_of 8 (by omega) (by omega)
  refine (RDoes2.does_I3 g (vals m c d f t undef) 8 (fdOf 8 wd) (fs1Of 8 wd) (fs2Of 8 wd) (immOf (formOf 8) wd) m.pc (ra m 8 wd) (rb m 8 wd) W h.mb rfl (rd_lt 8 wd) (rs1_lt 8 wd) (rs2_lt 8 wd) (vals_x _ _ _ _ _ _ _ (rs1_lt 8 wd)) (vals_x _ _ _ _ _ _ _ (rs2_lt 8 wd)) (by omega) (by omega) _ hr hf
    (fun W1 q0 q1 w' => q0 = U (m.pc + 4#64) ∧ q1 = 0 ∧ LftR W1 g (setx m (fdOf 8 wd) (oneV 8 (ra m 8 wd) (im 8 wd))) c d f t w') (fun W1 hb hm => (ROne.one_8 g (vals m c d f t undef) (fdOf 8 wd) _ _ _ m.pc (ra m 8 wd) (im 8 wd) W1 hm rfl (rd_lt 8 wd)).mono (fun e w' hh => ⟨_, _, hh.1, rfl, rfl, by rw [EDo2.one_8]; exact left_reg (h.below hb) _ (rd_lt 8 wd) _ hh.2.1 hh.2.2⟩))).mono ?_
  rintro e w' ⟨q0, q1, W1, rfl, hb, rfl, rfl, hx⟩
  unfold RP does
  rw [if_pos (by omega)]
  refine ⟨_, rfl, fun _ => ?_, ?_⟩
  · show _ = U (setx (setpc m (m.pc + 4#64)) (fdOf 8 wd) _).pc
    unfold setx
    split <;> rfl
  · show LftR W g (setpc (setx (setpc m (m.pc + 4#64)) (fdOf 8 wd) _) m.pc) c d f t w'
    rw [setx_pc, setpc2, setpc_self]
    exact lft_below hb hx
theorem does_o9 (h : MR W g m c d f t) (wd : Nat) : Calls Tryz.prog 45 #[.pointer (some ⟨g, 0, none⟩), insOf 9 wd] W fun e w' => RP m 9 wd W g c d f t e w' := by
  obtain ⟨hr, hf⟩ := row_of 9 (by omega) (by omega)
  refine (RDoes2.does_I4 g (vals m c d f t undef) 9 (fdOf 9 wd) (fs1Of 9 wd) (fs2Of 9 wd) (immOf (formOf 9) wd) m.pc (ra m 9 wd) (rb m 9 wd) W h.mb rfl (rd_lt 9 wd) (rs1_lt 9 wd) (rs2_lt 9 wd) (vals_x _ _ _ _ _ _ _ (rs1_lt 9 wd)) (vals_x _ _ _ _ _ _ _ (rs2_lt 9 wd)) (by omega) (by omega) _ hr hf
    (fun W1 q0 q1 w' => q0 = U (m.pc + 4#64) ∧ q1 = 0 ∧ LftR W1 g (setx m (fdOf 9 wd) (oneV 9 (ra m 9 wd) (im 9 wd))) c d f t w') (fun W1 hb hm => (ROne.one_9 g (vals m c d f t undef) (fdOf 9 wd) _ _ _ m.pc (ra m 9 wd) (im 9 wd) W1 hm rfl (rd_lt 9 wd)).mono (fun e w' hh => ⟨_, _, hh.1, rfl, rfl, by rw [EDo2.one_9]; exact left_reg (h.below hb) _ (rd_lt 9 wd) _ hh.2.1 hh.2.2⟩))).mono ?_
  rintro e w' ⟨q0, q1, W1, rfl, hb, rfl, rfl, hx⟩
  unfold RP does
  rw [if_pos (by omega)]
  refine ⟨_, rfl, fun _ => ?_, ?_⟩
  · show _ = U (setx (setpc m (m.pc + 4#64)) (fdOf 9 wd) _).pc
    unfold setx
    split <;> rfl
  · show LftR W g (setpc (setx (setpc m (m.pc + 4#64)) (fdOf 9 wd) _) m.pc) c d f t w'
    rw [setx_pc, setpc2, setpc_self]
    exact lft_below hb hx
theorem does_o10 (h : MR W g m c d f t) (wd : Nat) : Calls Tryz.prog 45 #[.pointer (some ⟨g, 0, none⟩), insOf 10 wd] W fun e w' => RP m 10 wd W g c d f t e w' := by
  obtain ⟨hr, hf⟩ := row_of 10 (by omega) (by omega)
  refine (RDoes2.does_I4 g (vals m c d f t undef) 10 (fdOf 10 wd) (fs1Of 10 wd) (fs2Of 10 wd) (immOf (formOf 10) wd) m.pc (ra m 10 wd) (rb m 10 wd) W h.mb rfl (rd_lt 10 wd) (rs1_lt 10 wd) (rs2_lt 10 wd) (vals_x _ _ _ _ _ _ _ (rs1_lt 10 wd)) (vals_x _ _ _ _ _ _ _ (rs2_lt 10 wd)) (by omega) (by omega) _ hr hf
    (fun W1 q0 q1 w' => q0 = U (m.pc + 4#64) ∧ q1 = 0 ∧ LftR W1 g (setx m (fdOf 10 wd) (oneV 10 (ra m 10 wd) (im 10 wd))) c d f t w') (fun W1 hb hm => (ROne.one_10 g (vals m c d f t undef) (fdOf 10 wd) _ _ _ m.pc (ra m 10 wd) (im 10 wd) W1 hm rfl (rd_lt 10 wd)).mono (fun e w' hh => ⟨_, _, hh.1, rfl, rfl, by rw [EDo2.one_10]; exact left_reg (h.below hb) _ (rd_lt 10 wd) _ hh.2.1 hh.2.2⟩))).mono ?_
  rintro e w' ⟨q0, q1, W1, rfl, hb, rfl, rfl, hx⟩
  unfold RP does
  rw [if_pos (by omega)]
  refine ⟨_, rfl, fun _ => ?_, ?_⟩
  · show _ = U (setx (setpc m (m.pc + 4#64)) (fdOf 10 wd) _).pc
    unfold setx
    split <;> rfl
  · show LftR W g (setpc (setx (setpc m (m.pc + 4#64)) (fdOf 10 wd) _) m.pc) c d f t w'
    rw [setx_pc, setpc2, setpc_self]
    exact lft_below hb hx
theorem does_o34 (h : MR W g m c d f t) (wd : Nat) : Calls Tryz.prog 45 #[.pointer (some ⟨g, 0, none⟩), insOf 34 wd] W fun e w' => RP m 34 wd W g c d f t e w' := by
  obtain ⟨hr, hf⟩ := row_of 34 (by omega) (by omega)
  refine (RDoes2.does_I2 g (vals m c d f t undef) 34 (fdOf 34 wd) (fs1Of 34 wd) (fs2Of 34 wd) (immOf (formOf 34) wd) m.pc (ra m 34 wd) (rb m 34 wd) W h.mb rfl (rd_lt 34 wd) (rs1_lt 34 wd) (rs2_lt 34 wd) (vals_x _ _ _ _ _ _ _ (rs1_lt 34 wd)) (vals_x _ _ _ _ _ _ _ (rs2_lt 34 wd)) (by omega) (by omega) _ hr hf
    (fun W1 q0 q1 w' => q0 = U ((ra m 34 wd + im 34 wd) &&& ~~~1#64) ∧ q1 = 0 ∧ LftR W1 g (setx m (fdOf 34 wd) (m.pc + 4#64)) c d f t w') (fun W1 hb hm => (ROne2.one_34 g (vals m c d f t undef) (fdOf 34 wd) _ _ _ m.pc (ra m 34 wd) (im 34 wd) W1 hm rfl (rd_lt 34 wd)).mono (fun e w' hh => ⟨_, _, hh.1, rfl, rfl, left_reg (h.below hb) _ (rd_lt 34 wd) _ hh.2.1 hh.2.2⟩))).mono ?_
  rintro e w' ⟨q0, q1, W1, rfl, hb, rfl, rfl, hx⟩
  unfold RP does
  rw [if_neg (by omega), if_neg (by omega), if_neg (by omega), if_neg (by omega), if_neg (by omega), if_neg (by omega)]
  refine ⟨_, rfl, fun _ => ?_, ?_⟩
  · show _ = U (setx (setpc m ((ra m 34 wd + im 34 wd) &&& ~~~1#64)) (fdOf 34 wd) (m.pc + 4#64)).pc
    unfold setx
    split <;> rfl
  · show LftR W g (setpc (setx (setpc m ((ra m 34 wd + im 34 wd) &&& ~~~1#64)) (fdOf 34 wd) (m.pc + 4#64)) m.pc) c d f t w'
    rw [setx_pc, setpc2, setpc_self]
    exact lft_below hb hx
theorem does_l11 (h : MR W g m c d f t) (hl : m.tr.length ≤ 1000000000) (wd : Nat) : Calls Tryz.prog 45 #[.pointer (some ⟨g, 0, none⟩), insOf 11 wd] W fun e w' => RP m 11 wd W g c d f t e w' := by
  cases hv : loads m (ra m 11 wd + im 11 wd) 8 with
  | none =>
    obtain ⟨hr, hf⟩ := row_of 11 (by omega) (by omega)
    refine (RDoes2.does_I2 g (vals m c d f t undef) 11 (fdOf 11 wd) (fs1Of 11 wd) (fs2Of 11 wd) (immOf (formOf 11) wd) m.pc (ra m 11 wd) (rb m 11 wd) W h.mb rfl (rd_lt 11 wd) (rs1_lt 11 wd) (rs2_lt 11 wd) (vals_x _ _ _ _ _ _ _ (rs1_lt 11 wd)) (vals_x _ _ _ _ _ _ _ (rs2_lt 11 wd)) (by omega) (by omega) _ hr hf
      (fun W1 q0 q1 w' => q1 = 6 ∧ Below W1.heap.size W1 w') (fun W1 hb hm => (ROne2.one_11_no g (fdOf 11 wd) _ _ _ (ra m 11 wd) (im 11 wd) W1 (load_none (h.below (bta hb (.cells #[.int .i64 11, .int .i64 ((fdOf 11 wd : Nat) : Int), .int .i64 ((fs1Of 11 wd : Nat) : Int), .int .i64 ((fs2Of 11 wd : Nat) : Int), .int .i64 (immOf (formOf 11) wd)] 42))) (ra m 11 wd + im 11 wd) 8 (by omega) (by omega) hv)).mono (fun e w' hh => ⟨_, _, hh.1, rfl, hh.2⟩))).mono ?_
    rintro e w' ⟨q0, q1, W1, rfl, hb, rfl, hx⟩
    unfold RP does
    rw [if_neg (by omega), if_pos (by omega), show loads m (ra m 11 wd + im 11 wd) (sz 11) = none from hv]
    exact ⟨_, rfl, fun hh => absurd (show (6 : Int) = 0 from hh) (by decide), lft_below hb (left_below (h.below hb) hx)⟩
  | some v =>
    obtain ⟨hr, hf⟩ := row_of 11 (by omega) (by omega)
    refine (RDoes2.does_I2 g (vals m c d f t undef) 11 (fdOf 11 wd) (fs1Of 11 wd) (fs2Of 11 wd) (immOf (formOf 11) wd) m.pc (ra m 11 wd) (rb m 11 wd) W h.mb rfl (rd_lt 11 wd) (rs1_lt 11 wd) (rs2_lt 11 wd) (vals_x _ _ _ _ _ _ _ (rs1_lt 11 wd)) (vals_x _ _ _ _ _ _ _ (rs2_lt 11 wd)) (by omega) (by omega) _ hr hf
      (fun W1 q0 q1 w' => q0 = U (m.pc + 4#64) ∧ q1 = 0 ∧ LftR W1 g (setx (note m ⟨false, U (ra m 11 wd + im 11 wd), ((8 : Nat) : Int)⟩) (fdOf 11 wd) (v)) c d f t w') (fun W1 hb hm => (ROne2.one_11 g (fdOf 11 wd) _ _ _ m.pc (ra m 11 wd) (im 11 wd) v W1 (rd_lt 11 wd)
        (fun v' w2 => ∃ t', v' = vals (note m ⟨false, U (ra m 11 wd + im 11 wd), ((8 : Nat) : Int)⟩) c d f t' undef ∧ LftR W1 g (note m ⟨false, U (ra m 11 wd + im 11 wd), ((8 : Nat) : Int)⟩) c d f t w2 ∧ MB 76 41 w2 g v') ((load_some (h.below (bta hb (.cells #[.int .i64 11, .int .i64 ((fdOf 11 wd : Nat) : Int), .int .i64 ((fs1Of 11 wd : Nat) : Int), .int .i64 ((fs2Of 11 wd : Nat) : Int), .int .i64 (immOf (formOf 11) wd)] 42))) hl (ra m 11 wd + im 11 wd) 8 (by omega) (by omega) v hv).mono (fun e w' hh => ?_))).mono (fun e w' hh => ?_))).mono ?_
    · obtain ⟨he, t', b1, b2, b3, b4⟩ := hh
      refine ⟨he, _, b1, rfl, ?_, t', b4.symm, lft_below (below_alloc (Below.refl _ _) _) b2, b1⟩
      refine (b3.1.2 W1.heap.size (by simp) ?_).trans (blk_new _ _)
      rintro (e | e)
      · have := (h.below hb).mb.lt; omega
      · have := (h.below hb).tr.lt _ e; omega
    · obtain ⟨he, v', w1, ⟨t', rfl, b2, b3⟩, b4, b5⟩ := hh
      refine ⟨_, _, he, rfl, rfl, ?_⟩
      obtain ⟨f2, t2, e1, e2, e3, e4⟩ := b2
      have ht : t2 = t' := by
        have x1 := e1.mb.cell 40 (by omega)
        have x2 := b3.cell 40 (by omega)
        rw [x1] at x2
        exact Option.some.inj x2
      have hfe : f2 = f := by
        have x1 := e1.mb.cell 2 (by omega)
        have x2 := b3.cell 2 (by omega)
        rw [x1] at x2
        exact Option.some.inj x2
      subst ht hfe
      exact lft_then ⟨f2, t2, e1, e2, e3, e4⟩ (fun f1 t1 k1 => by
        have ht : t1 = t2 := by
          have x1 := k1.mb.cell 40 (by omega)
          have x2 := e1.mb.cell 40 (by omega)
          rw [x1] at x2
          exact Option.some.inj x2
        have hfe : f1 = f2 := by
          have x1 := k1.mb.cell 2 (by omega)
          have x2 := e1.mb.cell 2 (by omega)
          rw [x1] at x2
          exact Option.some.inj x2
        subst ht hfe
        exact left_reg k1 _ (rd_lt 11 wd) _ b4 b5)
    · rintro e w' ⟨q0, q1, W1, rfl, hb, rfl, rfl, hx⟩
      unfold RP does
      rw [if_neg (by omega), if_pos (by omega), show loads m (ra m 11 wd + im 11 wd) (sz 11) = some v from hv]
      refine ⟨_, rfl, fun _ => ?_, ?_⟩
      · show _ = U (setx (note (setpc m (m.pc + 4#64)) _) (fdOf 11 wd) _).pc
        unfold setx
        split <;> rfl
      · show LftR W g (setpc (setx (note (setpc m (m.pc + 4#64)) _) (fdOf 11 wd) _) m.pc) c d f t w'
        rw [setx_pc]
        exact lft_below hb hx
theorem does_l12 (h : MR W g m c d f t) (hl : m.tr.length ≤ 1000000000) (wd : Nat) : Calls Tryz.prog 45 #[.pointer (some ⟨g, 0, none⟩), insOf 12 wd] W fun e w' => RP m 12 wd W g c d f t e w' := by
  cases hv : loads m (ra m 12 wd + im 12 wd) 4 with
  | none =>
    obtain ⟨hr, hf⟩ := row_of 12 (by omega) (by omega)
    refine (RDoes2.does_I2 g (vals m c d f t undef) 12 (fdOf 12 wd) (fs1Of 12 wd) (fs2Of 12 wd) (immOf (formOf 12) wd) m.pc (ra m 12 wd) (rb m 12 wd) W h.mb rfl (rd_lt 12 wd) (rs1_lt 12 wd) (rs2_lt 12 wd) (vals_x _ _ _ _ _ _ _ (rs1_lt 12 wd)) (vals_x _ _ _ _ _ _ _ (rs2_lt 12 wd)) (by omega) (by omega) _ hr hf
      (fun W1 q0 q1 w' => q1 = 6 ∧ Below W1.heap.size W1 w') (fun W1 hb hm => (ROne2.one_12_no g (fdOf 12 wd) _ _ _ (ra m 12 wd) (im 12 wd) W1 (load_none (h.below (bta hb (.cells #[.int .i64 12, .int .i64 ((fdOf 12 wd : Nat) : Int), .int .i64 ((fs1Of 12 wd : Nat) : Int), .int .i64 ((fs2Of 12 wd : Nat) : Int), .int .i64 (immOf (formOf 12) wd)] 42))) (ra m 12 wd + im 12 wd) 4 (by omega) (by omega) hv)).mono (fun e w' hh => ⟨_, _, hh.1, rfl, hh.2⟩))).mono ?_
    rintro e w' ⟨q0, q1, W1, rfl, hb, rfl, hx⟩
    unfold RP does
    rw [if_neg (by omega), if_pos (by omega), show loads m (ra m 12 wd + im 12 wd) (sz 12) = none from hv]
    exact ⟨_, rfl, fun hh => absurd (show (6 : Int) = 0 from hh) (by decide), lft_below hb (left_below (h.below hb) hx)⟩
  | some v =>
    obtain ⟨hr, hf⟩ := row_of 12 (by omega) (by omega)
    refine (RDoes2.does_I2 g (vals m c d f t undef) 12 (fdOf 12 wd) (fs1Of 12 wd) (fs2Of 12 wd) (immOf (formOf 12) wd) m.pc (ra m 12 wd) (rb m 12 wd) W h.mb rfl (rd_lt 12 wd) (rs1_lt 12 wd) (rs2_lt 12 wd) (vals_x _ _ _ _ _ _ _ (rs1_lt 12 wd)) (vals_x _ _ _ _ _ _ _ (rs2_lt 12 wd)) (by omega) (by omega) _ hr hf
      (fun W1 q0 q1 w' => q0 = U (m.pc + 4#64) ∧ q1 = 0 ∧ LftR W1 g (setx (note m ⟨false, U (ra m 12 wd + im 12 wd), ((4 : Nat) : Int)⟩) (fdOf 12 wd) (Alu.s32 v)) c d f t w') (fun W1 hb hm => (ROne2.one_12 g (fdOf 12 wd) _ _ _ m.pc (ra m 12 wd) (im 12 wd) v W1 (rd_lt 12 wd)
        (fun v' w2 => ∃ t', v' = vals (note m ⟨false, U (ra m 12 wd + im 12 wd), ((4 : Nat) : Int)⟩) c d f t' undef ∧ LftR W1 g (note m ⟨false, U (ra m 12 wd + im 12 wd), ((4 : Nat) : Int)⟩) c d f t w2 ∧ MB 76 41 w2 g v') ((load_some (h.below (bta hb (.cells #[.int .i64 12, .int .i64 ((fdOf 12 wd : Nat) : Int), .int .i64 ((fs1Of 12 wd : Nat) : Int), .int .i64 ((fs2Of 12 wd : Nat) : Int), .int .i64 (immOf (formOf 12) wd)] 42))) hl (ra m 12 wd + im 12 wd) 4 (by omega) (by omega) v hv).mono (fun e w' hh => ?_))).mono (fun e w' hh => ?_))).mono ?_
    · obtain ⟨he, t', b1, b2, b3, b4⟩ := hh
      refine ⟨he, _, b1, rfl, ?_, t', b4.symm, lft_below (below_alloc (Below.refl _ _) _) b2, b1⟩
      refine (b3.1.2 W1.heap.size (by simp) ?_).trans (blk_new _ _)
      rintro (e | e)
      · have := (h.below hb).mb.lt; omega
      · have := (h.below hb).tr.lt _ e; omega
    · obtain ⟨he, v', w1, ⟨t', rfl, b2, b3⟩, b4, b5⟩ := hh
      refine ⟨_, _, he, rfl, rfl, ?_⟩
      obtain ⟨f2, t2, e1, e2, e3, e4⟩ := b2
      have ht : t2 = t' := by
        have x1 := e1.mb.cell 40 (by omega)
        have x2 := b3.cell 40 (by omega)
        rw [x1] at x2
        exact Option.some.inj x2
      have hfe : f2 = f := by
        have x1 := e1.mb.cell 2 (by omega)
        have x2 := b3.cell 2 (by omega)
        rw [x1] at x2
        exact Option.some.inj x2
      subst ht hfe
      exact lft_then ⟨f2, t2, e1, e2, e3, e4⟩ (fun f1 t1 k1 => by
        have ht : t1 = t2 := by
          have x1 := k1.mb.cell 40 (by omega)
          have x2 := e1.mb.cell 40 (by omega)
          rw [x1] at x2
          exact Option.some.inj x2
        have hfe : f1 = f2 := by
          have x1 := k1.mb.cell 2 (by omega)
          have x2 := e1.mb.cell 2 (by omega)
          rw [x1] at x2
          exact Option.some.inj x2
        subst ht hfe
        exact left_reg k1 _ (rd_lt 12 wd) _ b4 b5)
    · rintro e w' ⟨q0, q1, W1, rfl, hb, rfl, rfl, hx⟩
      unfold RP does
      rw [if_neg (by omega), if_pos (by omega), show loads m (ra m 12 wd + im 12 wd) (sz 12) = some v from hv]
      refine ⟨_, rfl, fun _ => ?_, ?_⟩
      · show _ = U (setx (note (setpc m (m.pc + 4#64)) _) (fdOf 12 wd) _).pc
        unfold setx
        split <;> rfl
      · show LftR W g (setpc (setx (note (setpc m (m.pc + 4#64)) _) (fdOf 12 wd) _) m.pc) c d f t w'
        rw [setx_pc]
        exact lft_below hb hx
theorem does_l13 (h : MR W g m c d f t) (hl : m.tr.length ≤ 1000000000) (wd : Nat) : Calls Tryz.prog 45 #[.pointer (some ⟨g, 0, none⟩), insOf 13 wd] W fun e w' => RP m 13 wd W g c d f t e w' := by
  cases hv : loads m (ra m 13 wd + im 13 wd) 4 with
  | none =>
    obtain ⟨hr, hf⟩ := row_of 13 (by omega) (by omega)
    refine (RDoes2.does_I2 g (vals m c d f t undef) 13 (fdOf 13 wd) (fs1Of 13 wd) (fs2Of 13 wd) (immOf (formOf 13) wd) m.pc (ra m 13 wd) (rb m 13 wd) W h.mb rfl (rd_lt 13 wd) (rs1_lt 13 wd) (rs2_lt 13 wd) (vals_x _ _ _ _ _ _ _ (rs1_lt 13 wd)) (vals_x _ _ _ _ _ _ _ (rs2_lt 13 wd)) (by omega) (by omega) _ hr hf
      (fun W1 q0 q1 w' => q1 = 6 ∧ Below W1.heap.size W1 w') (fun W1 hb hm => (ROne2.one_13_no g (fdOf 13 wd) _ _ _ (ra m 13 wd) (im 13 wd) W1 (load_none (h.below (bta hb (.cells #[.int .i64 13, .int .i64 ((fdOf 13 wd : Nat) : Int), .int .i64 ((fs1Of 13 wd : Nat) : Int), .int .i64 ((fs2Of 13 wd : Nat) : Int), .int .i64 (immOf (formOf 13) wd)] 42))) (ra m 13 wd + im 13 wd) 4 (by omega) (by omega) hv)).mono (fun e w' hh => ⟨_, _, hh.1, rfl, hh.2⟩))).mono ?_
    rintro e w' ⟨q0, q1, W1, rfl, hb, rfl, hx⟩
    unfold RP does
    rw [if_neg (by omega), if_pos (by omega), show loads m (ra m 13 wd + im 13 wd) (sz 13) = none from hv]
    exact ⟨_, rfl, fun hh => absurd (show (6 : Int) = 0 from hh) (by decide), lft_below hb (left_below (h.below hb) hx)⟩
  | some v =>
    obtain ⟨hr, hf⟩ := row_of 13 (by omega) (by omega)
    refine (RDoes2.does_I2 g (vals m c d f t undef) 13 (fdOf 13 wd) (fs1Of 13 wd) (fs2Of 13 wd) (immOf (formOf 13) wd) m.pc (ra m 13 wd) (rb m 13 wd) W h.mb rfl (rd_lt 13 wd) (rs1_lt 13 wd) (rs2_lt 13 wd) (vals_x _ _ _ _ _ _ _ (rs1_lt 13 wd)) (vals_x _ _ _ _ _ _ _ (rs2_lt 13 wd)) (by omega) (by omega) _ hr hf
      (fun W1 q0 q1 w' => q0 = U (m.pc + 4#64) ∧ q1 = 0 ∧ LftR W1 g (setx (note m ⟨false, U (ra m 13 wd + im 13 wd), ((4 : Nat) : Int)⟩) (fdOf 13 wd) (v)) c d f t w') (fun W1 hb hm => (ROne2.one_13 g (fdOf 13 wd) _ _ _ m.pc (ra m 13 wd) (im 13 wd) v W1 (rd_lt 13 wd)
        (fun v' w2 => ∃ t', v' = vals (note m ⟨false, U (ra m 13 wd + im 13 wd), ((4 : Nat) : Int)⟩) c d f t' undef ∧ LftR W1 g (note m ⟨false, U (ra m 13 wd + im 13 wd), ((4 : Nat) : Int)⟩) c d f t w2 ∧ MB 76 41 w2 g v') ((load_some (h.below (bta hb (.cells #[.int .i64 13, .int .i64 ((fdOf 13 wd : Nat) : Int), .int .i64 ((fs1Of 13 wd : Nat) : Int), .int .i64 ((fs2Of 13 wd : Nat) : Int), .int .i64 (immOf (formOf 13) wd)] 42))) hl (ra m 13 wd + im 13 wd) 4 (by omega) (by omega) v hv).mono (fun e w' hh => ?_))).mono (fun e w' hh => ?_))).mono ?_
    · obtain ⟨he, t', b1, b2, b3, b4⟩ := hh
      refine ⟨he, _, b1, rfl, ?_, t', b4.symm, lft_below (below_alloc (Below.refl _ _) _) b2, b1⟩
      refine (b3.1.2 W1.heap.size (by simp) ?_).trans (blk_new _ _)
      rintro (e | e)
      · have := (h.below hb).mb.lt; omega
      · have := (h.below hb).tr.lt _ e; omega
    · obtain ⟨he, v', w1, ⟨t', rfl, b2, b3⟩, b4, b5⟩ := hh
      refine ⟨_, _, he, rfl, rfl, ?_⟩
      obtain ⟨f2, t2, e1, e2, e3, e4⟩ := b2
      have ht : t2 = t' := by
        have x1 := e1.mb.cell 40 (by omega)
        have x2 := b3.cell 40 (by omega)
        rw [x1] at x2
        exact Option.some.inj x2
      have hfe : f2 = f := by
        have x1 := e1.mb.cell 2 (by omega)
        have x2 := b3.cell 2 (by omega)
        rw [x1] at x2
        exact Option.some.inj x2
      subst ht hfe
      exact lft_then ⟨f2, t2, e1, e2, e3, e4⟩ (fun f1 t1 k1 => by
        have ht : t1 = t2 := by
          have x1 := k1.mb.cell 40 (by omega)
          have x2 := e1.mb.cell 40 (by omega)
          rw [x1] at x2
          exact Option.some.inj x2
        have hfe : f1 = f2 := by
          have x1 := k1.mb.cell 2 (by omega)
          have x2 := e1.mb.cell 2 (by omega)
          rw [x1] at x2
          exact Option.some.inj x2
        subst ht hfe
        exact left_reg k1 _ (rd_lt 13 wd) _ b4 b5)
    · rintro e w' ⟨q0, q1, W1, rfl, hb, rfl, rfl, hx⟩
      unfold RP does
      rw [if_neg (by omega), if_pos (by omega), show loads m (ra m 13 wd + im 13 wd) (sz 13) = some v from hv]
      refine ⟨_, rfl, fun _ => ?_, ?_⟩
      · show _ = U (setx (note (setpc m (m.pc + 4#64)) _) (fdOf 13 wd) _).pc
        unfold setx
        split <;> rfl
      · show LftR W g (setpc (setx (note (setpc m (m.pc + 4#64)) _) (fdOf 13 wd) _) m.pc) c d f t w'
        rw [setx_pc]
        exact lft_below hb hx
theorem does_eq (h : MR W g m c d f t) (hl : m.tr.length ≤ 1000000000) (n wd : Nat) (h0 : 1 ≤ n) (h1 : n ≤ 34) : Calls Tryz.prog 45 #[.pointer (some ⟨g, 0, none⟩), insOf n wd] W fun e w' => RP m n wd W g c d f t e w' := by
  by_cases c1 : n ≤ 15
  · have hn : n = 1 ∨ n = 2 ∨ n = 3 ∨ n = 4 ∨ n = 5 ∨ n = 6 ∨ n = 7 ∨ n = 8 ∨ n = 9 ∨ n = 10 ∨ n = 11 ∨ n = 12 ∨ n = 13 ∨ n = 14 ∨ n = 15 := by omega
    rcases hn with rfl | rfl | rfl | rfl | rfl | rfl | rfl | rfl | rfl | rfl | rfl | rfl | rfl | rfl | rfl
    · exact does_o1 h wd
    · exact does_o2 h wd
    · exact does_o3 h wd
    · exact does_o4 h wd
    · exact does_o5 h wd
    · exact does_o6 h wd
    · exact does_o7 h wd
    · exact does_o8 h wd
    · exact does_o9 h wd
    · exact does_o10 h wd
    · exact does_l11 h hl wd
    · exact does_l12 h hl wd
    · exact does_l13 h hl wd
    · exact does_s14 h hl wd
    · exact does_s15 h hl wd
  by_cases c2 : n ≤ 28
  · exact does_two h n wd (by omega) c2
  by_cases c3 : n ≤ 32
  · exact does_br h n wd (by omega) c3
  by_cases c4 : n = 33
  · subst c4
    exact does_jal h wd
  · obtain rfl : n = 34 := by omega
    exact does_o34 h wd
end
end Go.Proofs.YtcgkgaibomcheaaGreat.RM2
end

section
namespace Go.Proofs.YtcgkgaibomcheaaGreat.RStep
open Go.RowKit Bits Dec Mac Mb Rd RDec EM RM RM2 PRvemuRuns YtcgkgaibomcheaaGreatW.PrintWords YtcgkgaibomcheaaGreatW.PrintLast YtcgkgaibomcheaaGreatW.PrintMore
section
variable {W W' : World} {g : Nat} {m : Mac} {c d f t : Value}
theorem fails_left (h : MR W g m c d f t) (e : Int) : Calls Tryz.prog 42 #[.pointer (some ⟨g, 0, none⟩), .int .i64 e] W fun e' w' => e' = .returned (.bool true) ∧ LftR W g (fin m e) c d f t w' :=
  (Ends.fails g _ e W h.mb).mono fun e' w' ⟨he, hm, ho⟩ => ⟨he, left_only h ho _ (by rw [← EStep.vals_fin]; exact hm) rfl rfl rfl⟩
theorem fails_lft {m1 : Mac} (hw : LftR W g m1 c d f t W') (er : Int) : Calls Tryz.prog 42 #[.pointer (some ⟨g, 0, none⟩), .int .i64 er] W' fun e w' => e = .returned (.bool true) ∧ LftR W g (fin m1 er) c d f t w' := by
  obtain ⟨f1, t1, a1, a2, a3, a4⟩ := hw
  refine (fails_left a1 er).mono fun e w' hh => ⟨hh.1, ?_⟩
  refine lft_then ⟨f1, t1, a1, a2, a3, a4⟩ (fun f2 t2 k2 => ?_)
  have ht : t2 = t1 := by
    have x1 := k2.mb.cell 40 (by omega)
    have x2 := a1.mb.cell 40 (by omega)
    rw [x1] at x2
    exact Option.some.inj x2
  have hfe : f2 = f1 := by
    have x1 := k2.mb.cell 2 (by omega)
    have x2 := a1.mb.cell 2 (by omega)
    rw [x1] at x2
    exact Option.some.inj x2
  subst ht hfe
  exact hh.2
structure Tests (W : World) (g : Nat) (A : Option Addr) (L cc : Nat) (dn : Bool) (p s u : Int) : Prop where
  c0 : W.cell? ⟨g, 0, none⟩ = some (.slice A L cc)
  c38 : W.cell? ⟨g, 38, none⟩ = some (.bool dn)
  c35 : W.cell? ⟨g, 35, none⟩ = some (.int .u64 p)
  c36 : W.cell? ⟨g, 36, none⟩ = some (.int .i64 u)
  c37 : W.cell? ⟨g, 37, none⟩ = some (.int .i64 s)
  p0 : 0 ≤ p
  p1 : p < 18446744073709551616
theorem tests (h : MR W g m c d f t) {A : Option Addr} {cc : Nat} (hc : c = .slice A m.code.length cc) : Tests W g A m.code.length cc m.done (U m.pc) m.steps m.fuel where
  c0 := (h.mb.cell 0 (by omega)).trans (congrArg some hc)
  c38 := h.mb.cell 38 (by omega)
  c35 := h.mb.cell 35 (by omega)
  c36 := h.mb.cell 36 (by omega)
  c37 := h.mb.cell 37 (by omega)
  p0 := U_nonneg _
  p1 := U_lt _
theorem wrapL (L : Nat) (hL : L ≤ 1000000000000000) : IntKind.u64.wrap (L : Int) = (L : Int) := by simp only [IntKind.wrap, IntKind.bits, IntKind.signed, Bool.false_and, Bool.false_eq_true, if_false]; omega
set_option maxRecDepth 20000 in
theorem step_done (h : MR W g m c d f t) {A : Option Addr} {cc : Nat} (hc : c = .slice A m.code.length cc) (hcl : m.code.length ≤ 1000000000000000) (hd : m.done = true) : Calls Tryz.prog 26 #[.pointer (some ⟨g, 0, none⟩)] W fun e w' => e = .returned (.bool (stepM m).done) ∧ LftR W g (stepM m) c d f t w' := by
  have hs : stepM m = m := by unfold stepM; rw [if_pos hd]
  rw [hs, hd]
  obtain ⟨c0, c38, c35, c36, c37, p0, p1⟩ := tests h hc
  have wL := wrapL _ hcl
  rw [hd] at c38
  have HL := Aside0.mk (left_below h (Below.refl _ _))
  generalize m.code.length = L at *
  clear h hd hs hc
  generalize U m.pc = p at *
  generalize m.steps = s at *
  generalize m.fuel = u at *
  go_enter Tryz.func26, Tryz.ntmps26
  go_wp2
  go_ret
  exact ⟨rfl, HL.out⟩
set_option maxRecDepth 20000 in
theorem step_back (h : MR W g m c d f t) {A : Option Addr} {cc : Nat} (hc : c = .slice A m.code.length cc) (hcl : m.code.length ≤ 1000000000000000) (hd : m.done = false) (hb : m.pc = back) : Calls Tryz.prog 26 #[.pointer (some ⟨g, 0, none⟩)] W fun e w' => e = .returned (.bool (stepM m).done) ∧ LftR W g (stepM m) c d f t w' := by
  have hs : stepM m = fin m 0 := by unfold stepM; rw [if_neg (by rw [hd]; simp), if_pos hb]
  rw [hs, show (fin m 0).done = true from rfl]
  obtain ⟨c0, c38, c35, c36, c37, p0, p1⟩ := tests h hc
  have wL := wrapL _ hcl
  rw [hd] at c38
  rw [hb] at c35
  have c35 : W.cell? ⟨g, 35, none⟩ = some (.int .u64 412316860416) := c35
  have HE := Aside0.mk (fails_left h 0)
  generalize m.code.length = L at *
  clear h hd hs hc p0 p1 hb
  generalize m.steps = s at *
  generalize m.fuel = u at *
  go_enter Tryz.func26, Tryz.ntmps26
  go_wp2_with fail
  refine HE.out.mono ?_
  rintro e w1 ⟨rfl, hl⟩
  have HL := Aside0.mk hl
  clear hl
  go_wp2
  go_ret
  exact ⟨rfl, HL.out⟩
set_option maxRecDepth 20000 in
theorem step_fuel (h : MR W g m c d f t) {A : Option Addr} {cc : Nat} (hc : c = .slice A m.code.length cc) (hcl : m.code.length ≤ 1000000000000000) (hd : m.done = false) (hb : ¬ m.pc = back) (hf : m.fuel ≤ m.steps) : Calls Tryz.prog 26 #[.pointer (some ⟨g, 0, none⟩)] W fun e w' => e = .returned (.bool (stepM m).done) ∧ LftR W g (stepM m) c d f t w' := by
  have hs : stepM m = fin m 3 := by unfold stepM; rw [if_neg (by rw [hd]; simp), if_neg hb, if_pos hf]
  rw [hs, show (fin m 3).done = true from rfl]
  obtain ⟨c0, c38, c35, c36, c37, p0, p1⟩ := tests h hc
  have wL := wrapL _ hcl
  rw [hd] at c38
  have t1 := EStep.pc_ne hb
  have t2 : decide (m.steps ≥ m.fuel) = true := decide_eq_true hf
  have t3 : decide (m.fuel ≤ m.steps) = true := decide_eq_true hf
  have HE := Aside0.mk (fun (n : Nat) => fails_lft (left_below h (pw_below_drewN (Below.refl W.heap.size W) n)) 3)
  generalize m.code.length = L at *
  clear h hd hs hc p0 p1 hb
  generalize U m.pc = p at *
  generalize m.steps = s at *
  generalize m.fuel = u at *
  go_enter Tryz.func26, Tryz.ntmps26
  go_wp2_with fail
  go_quiet (fail)
  go_wp2_with fail
  refine (HE.out nq).mono ?_
  rintro e w1 ⟨rfl, hl⟩
  have HL := Aside0.mk hl
  clear hl
  go_wp2
  go_ret
  exact ⟨rfl, HL.out⟩
set_option maxRecDepth 20000 in
set_option maxHeartbeats 2000000 in
theorem step_nofetch (h : MR W g m c d f t) {A : Option Addr} {cc : Nat} (hc : c = .slice A m.code.length cc) (hcl : m.code.length ≤ 1000000000000000) (hd : m.done = false) (hb : ¬ m.pc = back) (hf : ¬ m.fuel ≤ m.steps) (hft : fetches m = false) : Calls Tryz.prog 26 #[.pointer (some ⟨g, 0, none⟩)] W fun e w' => e = .returned (.bool (stepM m).done) ∧ LftR W g (stepM m) c d f t w' := by
  have hs : stepM m = fin m 4 := by unfold stepM; rw [if_neg (by rw [hd]; simp), if_neg hb, if_neg hf, if_pos hft]
  rw [hs, show (fin m 4).done = true from rfl]
  obtain ⟨c0, c38, c35, c36, c37, p0, p1⟩ := tests h hc
  have wL := wrapL _ hcl
  rw [hd] at c38
  have t1 := EStep.pc_ne hb
  have t2 : decide (m.steps ≥ m.fuel) = false := decide_eq_false (by omega)
  have t3 : decide (m.fuel ≤ m.steps) = false := decide_eq_false hf
  have HE := Aside0.mk (fun (n : Nat) => fails_lft (left_below h (pw_below_drewN (Below.refl W.heap.size W) n)) 4)
  unfold fetches at hft
  have hbad := of_decide_eq_false hft
  have hU : U m.pc = ((m.pc.toNat : Nat) : Int) := rfl
  have hbad : ¬ (U m.pc % 4 = 0 ∧ 4194304 ≤ U m.pc ∧ U m.pc - 4194304 + 4 ≤ (m.code.length : Int)) := fun hh => hbad (by rw [hU] at hh; omega)
  clear hft hU
  generalize m.code.length = L at *
  by_cases c1 : U m.pc % 4 = 0
  case neg =>
    have k1 : (U m.pc % 4 != 0) = true := by rw [bne_iff_ne]; exact c1
    clear hbad c1
    clear h hd hs hc hb hf hcl
    generalize U m.pc = p at *
    generalize m.steps = s at *
    generalize m.fuel = u at *
    go_enter Tryz.func26, Tryz.ntmps26
    go_wp2_with fail
    go_quiet (fail)
    go_wp2_with fail
    refine (HE.out nq).mono ?_
    rintro e w1 ⟨rfl, hl⟩
    have HL := Aside0.mk hl
    clear hl
    go_wp2
    go_ret
    exact ⟨rfl, HL.out⟩
  have k1 : (U m.pc % 4 != 0) = false := by rw [bne_eq_false_iff_eq]; exact c1
  by_cases c2 : 4194304 ≤ U m.pc
  case neg =>
    have k2 : decide (U m.pc < 4194304) = true := decide_eq_true (by omega)
    clear hbad c1 c2
    clear h hd hs hc hb hf hcl
    generalize U m.pc = p at *
    generalize m.steps = s at *
    generalize m.fuel = u at *
    go_enter Tryz.func26, Tryz.ntmps26
    go_wp2_with fail
    go_quiet (fail)
    go_wp2_with fail
    refine (HE.out nq).mono ?_
    rintro e w1 ⟨rfl, hl⟩
    have HL := Aside0.mk hl
    clear hl
    go_wp2
    go_ret
    exact ⟨rfl, HL.out⟩
  have k2 : decide (U m.pc < 4194304) = false := decide_eq_false (by omega)
  have ws : IntKind.u64.wrap (U m.pc - 4194304) = U m.pc - 4194304 := by simp only [IntKind.wrap, IntKind.bits, IntKind.signed, Bool.false_and, Bool.false_eq_true, if_false]; omega
  by_cases c3 : (L : Int) < 4
  case pos =>
    have k3 : decide ((L : Int) < 4) = true := decide_eq_true (by omega)
    have k3' : decide (L < 4) = true := decide_eq_true (by omega)
    clear hbad c1 c2 c3
    clear h hd hs hc hb hf hcl
    generalize U m.pc = p at *
    generalize m.steps = s at *
    generalize m.fuel = u at *
    go_enter Tryz.func26, Tryz.ntmps26
    go_wp2_with fail
    go_quiet (fail)
    go_wp2_with fail
    refine (HE.out nq).mono ?_
    rintro e w1 ⟨rfl, hl⟩
    have HL := Aside0.mk hl
    clear hl
    go_wp2
    go_ret
    exact ⟨rfl, HL.out⟩
  have k3 : decide ((L : Int) < 4) = false := decide_eq_false c3
  have k3' : decide (L < 4) = false := decide_eq_false (by omega)
  have wl : IntKind.u64.wrap ((L : Int) - 4) = (L : Int) - 4 := by simp only [IntKind.wrap, IntKind.bits, IntKind.signed, Bool.false_and, Bool.false_eq_true, if_false]; omega
  have k4 : decide (U m.pc - 4194304 > (L : Int) - 4) = true := decide_eq_true (by omega)
  have k4' : decide ((L : Int) - 4 < U m.pc - 4194304) = true := decide_eq_true (by omega)
  clear hbad c1 c2 c3
  · skip
    clear h hd hs hc hb hf hcl
    generalize U m.pc = p at *
    generalize m.steps = s at *
    generalize m.fuel = u at *
    go_enter Tryz.func26, Tryz.ntmps26
    go_wp2_with fail
    go_quiet (fail)
    go_wp2_with fail
    refine (HE.out nq).mono ?_
    rintro e w1 ⟨rfl, hl⟩
    have HL := Aside0.mk hl
    clear hl
    go_wp2
    go_ret
    exact ⟨rfl, HL.out⟩
theorem word_at {A : Option Addr} {cc : Nat} (hcc : m.code.length ≤ cc) (hC : Kd.C (Kd.int .u8) W A m.code.length m.code) (hbc : isBytes m.code) (hcl : m.code.length ≤ 1000000000000000) (hk : 4194304 ≤ m.pc.toNat ∧ m.pc.toNat - 4194304 + 4 ≤ m.code.length) (W' : World) (hw : Below W.heap.size W W') :
    Calls Tryz.prog 44 #[.slice A m.code.length cc, .int .i64 (U m.pc - 4194304)] W' fun e w' => e = .returned (.int .u32 ((word m : Nat) : Int)) ∧ Drawn0 W' w' := by
  have hU : U m.pc = ((m.pc.toNat : Nat) : Int) := rfl
  have hn : (U m.pc - 4194304).toNat = m.pc.toNat - 4194304 := by rw [hU]; omega
  have hl := F1.ref_Load_yes 100 (by omega) m.code hcl hbc (U m.pc - 4194304) 4 ⟨by omega, by omega, by rw [hU]; omega, by rw [hU]; omega⟩
  rw [hn] at hl
  refine ravelinref15_Word.calls 100 A cc m.code (U m.pc - 4194304) _ W' (Kd.C_below hC hw) hcc ?_
  unfold ravelinref15_Word.f
  rw [hl]
  have hlt : word m < 4294967296 := EFetch.ld_lt hbc _
  show some (((word m : Nat) : Int) % 4294967296) = some ((word m : Nat) : Int)
  congr 1
  omega
set_option maxRecDepth 20000 in
set_option maxHeartbeats 2000000 in
theorem step_nodec (h : MR W g m c d f t) {A : Option Addr} {cc : Nat} (hc : c = .slice A m.code.length cc) (hcc : m.code.length ≤ cc) (hC : Kd.C (Kd.int .u8) W A m.code.length m.code) (hbc : isBytes m.code) (hcl : m.code.length ≤ 1000000000000000) (hd : m.done = false) (hb : ¬ m.pc = back) (hf : ¬ m.fuel ≤ m.steps) (hft : fetches m = true) (hdc : dec (word m) = none) : Calls Tryz.prog 26 #[.pointer (some ⟨g, 0, none⟩)] W fun e w' => e = .returned (.bool true) ∧ LftR W g (fin m 5) c d f t w' := by
  obtain ⟨c0, c38, c35, c36, c37, p0, p1⟩ := tests h hc
  have wL := wrapL _ hcl
  rw [hd] at c38
  have t1 := EStep.pc_ne hb
  have t2 : decide (m.steps ≥ m.fuel) = false := decide_eq_false (by omega)
  have t3 : decide (m.fuel ≤ m.steps) = false := decide_eq_false hf
  unfold fetches at hft
  obtain ⟨b1, b2, b3⟩ := of_decide_eq_true hft
  have hU : U m.pc = ((m.pc.toNat : Nat) : Int) := rfl
  have k1 : (U m.pc % 4 != 0) = false := by rw [bne_eq_false_iff_eq]; omega
  have k2 : decide (U m.pc < 4194304) = false := decide_eq_false (by omega)
  have ws : IntKind.u64.wrap (U m.pc - 4194304) = U m.pc - 4194304 := by simp only [IntKind.wrap, IntKind.bits, IntKind.signed, Bool.false_and, Bool.false_eq_true, if_false]; omega
  have w6 : wrap64 (U m.pc - 4194304) = U m.pc - 4194304 := by unfold wrap64; omega
  have k3 : decide ((m.code.length : Int) < 4) = false := decide_eq_false (by omega)
  have k3' : decide (m.code.length < 4) = false := decide_eq_false (by omega)
  have wl : IntKind.u64.wrap ((m.code.length : Int) - 4) = (m.code.length : Int) - 4 := by simp only [IntKind.wrap, IntKind.bits, IntKind.signed, Bool.false_and, Bool.false_eq_true, if_false]; omega
  have k4 : decide (U m.pc - 4194304 > (m.code.length : Int) - 4) = false := decide_eq_false (by omega)
  have k4' : decide ((m.code.length : Int) - 4 < U m.pc - 4194304) = false := decide_eq_false (by omega)
  have HWD := Aside0.mk (fun W' hw => word_at hcc hC hbc hcl ⟨b2, b3⟩ W' hw)
  have hwl : word m < 4294967296 := EFetch.ld_lt hbc _
  have HDC := Aside0.mk (RDec.decode (word m) hwl)
  have HE := Aside0.mk (fun (W' : World) (hw : Below W.heap.size W W') => fails_lft (left_below h hw) 5)
  have hv : decV (word m) = .tuple #[.agg #[.int .i64 0, .int .i64 0, .int .i64 0, .int .i64 0, .int .i64 0], .int .i64 5] := by unfold decV; rw [hdc]; rfl
  rw [hv] at HDC
  clear h hd hc hft hv hdc hwl
  generalize word m = wd at *
  generalize m.code.length = L at *
  clear b1 b2 b3 hU hb hf hC hbc
  generalize U m.pc = p at *
  generalize m.steps = s at *
  generalize m.fuel = u at *
  go_enter Tryz.func26, Tryz.ntmps26
  go_wp2_with fail
  go_quiet (fail)
  go_wp2_with fail
  refine (HWD.out _ (pw_below_drewN (Below.refl _ _) nq)).mono ?_
  rintro e w1 ⟨rfl, hdr⟩
  have HB1 := Aside0.mk (below_step (pw_below_drewN (Below.refl W.heap.size W) nq) hdr.below)
  clear hdr HWD
  go_wp2_with fail
  refine (HDC.out _).mono ?_
  rintro e w2 ⟨rfl, hb2⟩
  have HB2 := Aside0.mk (below_step HB1.out hb2)
  clear hb2 HDC HB1
  go_wp2_with fail
  refine (HE.out _ (below_alloc HB2.out _)).mono ?_
  rintro e w3 ⟨rfl, hl⟩
  have HL := Aside0.mk hl
  clear hl
  go_wp2
  go_ret
  exact ⟨rfl, HL.out⟩
set_option maxRecDepth 20000 in
set_option maxHeartbeats 2000000 in
theorem step_fails (h : MR W g m c d f t) {A : Option Addr} {cc : Nat} (hc : c = .slice A m.code.length cc) (hcc : m.code.length ≤ cc) (hC : Kd.C (Kd.int .u8) W A m.code.length m.code) (hbc : isBytes m.code) (hcl : m.code.length ≤ 1000000000000000) (hd : m.done = false) (hb : ¬ m.pc = back) (hf : ¬ m.fuel ≤ m.steps) (hft : fetches m = true) (n : Nat) (hdc : dec (word m) = some n) (er : Int) (her : er ≠ 0)
    (HDO : ∀ W', Below W.heap.size W W' → Calls Tryz.prog 45 #[.pointer (some ⟨g, 0, none⟩), insOf n (word m)] W' fun e w' => ∃ q0 : Int, e = .returned (.tuple #[.int .u64 q0, .int .i64 er]) ∧ LftR W' g m c d f t w') :
    Calls Tryz.prog 26 #[.pointer (some ⟨g, 0, none⟩)] W fun e w' => e = .returned (.bool true) ∧ LftR W g (fin m er) c d f t w' := by
  obtain ⟨c0, c38, c35, c36, c37, p0, p1⟩ := tests h hc
  have wL := wrapL _ hcl
  rw [hd] at c38
  have t1 := EStep.pc_ne hb
  have t2 : decide (m.steps ≥ m.fuel) = false := decide_eq_false (by omega)
  have t3 : decide (m.fuel ≤ m.steps) = false := decide_eq_false hf
  unfold fetches at hft
  obtain ⟨b1, b2, b3⟩ := of_decide_eq_true hft
  have hU : U m.pc = ((m.pc.toNat : Nat) : Int) := rfl
  have k1 : (U m.pc % 4 != 0) = false := by rw [bne_eq_false_iff_eq]; omega
  have k2 : decide (U m.pc < 4194304) = false := decide_eq_false (by omega)
  have ws : IntKind.u64.wrap (U m.pc - 4194304) = U m.pc - 4194304 := by simp only [IntKind.wrap, IntKind.bits, IntKind.signed, Bool.false_and, Bool.false_eq_true, if_false]; omega
  have w6 : wrap64 (U m.pc - 4194304) = U m.pc - 4194304 := by unfold wrap64; omega
  have k3 : decide ((m.code.length : Int) < 4) = false := decide_eq_false (by omega)
  have k3' : decide (m.code.length < 4) = false := decide_eq_false (by omega)
  have wl : IntKind.u64.wrap ((m.code.length : Int) - 4) = (m.code.length : Int) - 4 := by simp only [IntKind.wrap, IntKind.bits, IntKind.signed, Bool.false_and, Bool.false_eq_true, if_false]; omega
  have k4 : decide (U m.pc - 4194304 > (m.code.length : Int) - 4) = false := decide_eq_false (by omega)
  have k4' : decide ((m.code.length : Int) - 4 < U m.pc - 4194304) = false := decide_eq_false (by omega)
  have HWD := Aside0.mk (fun W' hw => word_at hcc hC hbc hcl ⟨b2, b3⟩ W' hw)
  have hwl : word m < 4294967296 := EFetch.ld_lt hbc _
  have HDC := Aside0.mk (RDec.decode (word m) hwl)
  have HE := Aside0.mk (fun (W' : World) (hw : LftR W g m c d f t W') => fails_lft hw er)
  have q1 : (er == 0) = false := beq_eq_false_iff_ne.2 her
  have q2 : (er != 0) = true := bne_iff_ne.2 her
  have HDOA := Aside0.mk HDO
  clear HDO
  have HI := Aside0.mk (show insOf n (word m) = .agg #[.int .i64 (n : Int), .int .i64 (fdOf n (word m) : Nat), .int .i64 (fs1Of n (word m) : Nat), .int .i64 (fs2Of n (word m) : Nat), .int .i64 (immOf (formOf n) (word m))] from rfl)
  have hv : decV (word m) = .tuple #[.agg #[.int .i64 (n : Int), .int .i64 (fdOf n (word m) : Nat), .int .i64 (fs1Of n (word m) : Nat), .int .i64 (fs2Of n (word m) : Nat), .int .i64 (immOf (formOf n) (word m))], .int .i64 0] := by unfold decV; rw [hdc]; rfl
  rw [hv] at HDC
  rw [HI.out] at HDOA
  clear h hd hc hft hv hdc hwl HI her
  generalize ((fdOf n (word m) : Nat) : Int) = a1 at *
  generalize ((fs1Of n (word m) : Nat) : Int) = a2 at *
  generalize ((fs2Of n (word m) : Nat) : Int) = a3 at *
  generalize immOf (formOf n) (word m) = a4 at *
  generalize word m = wd at *
  generalize m.code.length = L at *
  clear b1 b2 b3 hU hb hf hC hbc
  generalize U m.pc = p at *
  generalize m.steps = s at *
  generalize m.fuel = u at *
  go_enter Tryz.func26, Tryz.ntmps26
  go_wp2_with fail
  go_quiet (fail)
  go_wp2_with fail
  refine (HWD.out _ (pw_below_drewN (Below.refl _ _) nq)).mono ?_
  rintro e w1 ⟨rfl, hdr⟩
  have HB1 := Aside0.mk (below_step (pw_below_drewN (Below.refl W.heap.size W) nq) hdr.below)
  clear hdr HWD
  go_wp2_with fail
  refine (HDC.out _).mono ?_
  rintro e w2 ⟨rfl, hb2⟩
  have HB2 := Aside0.mk (below_step HB1.out hb2)
  clear hb2 HDC HB1
  go_wp2_with fail
  refine (HDOA.out _ (below_alloc HB2.out _)).mono ?_
  rintro e w3 ⟨q0, rfl, hl3⟩
  have HL3 := Aside0.mk (lft_below (below_alloc HB2.out _) hl3)
  clear hl3
  go_wp2_with fail
  refine (HE.out _ HL3.out).mono ?_
  rintro e w4 ⟨rfl, hl⟩
  have HL := Aside0.mk hl
  clear hl HL3
  go_wp2
  go_ret
  exact ⟨rfl, HL.out⟩
theorem put (h : MR W g m c d f t) (j : Nat) (u : Value) (m' : Mac) (hv : vals m' c d f t undef j = u) (ho : ∀ i, i < 41 → i ≠ j → vals m' c d f t undef i = vals m c d f t undef i) (e1 : m'.tr = m.tr) (e2 : m'.data = m.data) (e3 : m'.frame = m.frame) : MR (W.setCell ⟨g, j, none⟩ u) g m' c d f t := by
  have hw := ((Wr.refl (ownR g t) W).set (p := ⟨g, j, none⟩) (.inl (.inl rfl)) u)
  refine h.write hw.1 m' t (h.mb.put j u _ hv ho) ?_ e2 e3
  rw [e1]
  obtain ⟨cs, hcs⟩ := mbt h.mb
  exact Kd.R_set h.tr hcs (by decide) j u
theorem after_mr {m1 : Mac} {p0 : BitVec 64} (h : MR W g (setpc m1 p0) c d f t) : MR (((W.setCell ⟨g, 35, none⟩ (.int .u64 (U m1.pc))).setCell ⟨g, 37, none⟩ (.int .i64 (m1.steps + 1))).setCell ⟨g, 38, none⟩ (.bool (decide (m1.pc = back)))) g (after m1) c d f t := by
  have h1 : MR (W.setCell ⟨g, 35, none⟩ (.int .u64 (U m1.pc))) g m1 c d f t := put h 35 _ m1 rfl (fun i _ hi => (EDo.setpc_vals m1 c d f t undef p0 i hi).symm) rfl rfl rfl
  refine put (m := { m1 with steps := m1.steps + 1 }) (put h1 37 _ { m1 with steps := m1.steps + 1 } rfl (fun i _ hi => ?_) rfl rfl rfl) 38 _ (Mac.after m1) rfl (fun i _ hi => ?_) rfl rfl rfl
  · unfold vals
    simp only [if_neg hi]
  · unfold vals Mac.after
    simp only [if_neg hi]
theorem after_lft {m1 : Mac} {p0 : BitVec 64} (hw : LftR W g (setpc m1 p0) c d f t W') : LftR W g (after m1) c d f t (((W'.setCell ⟨g, 35, none⟩ (.int .u64 (U m1.pc))).setCell ⟨g, 37, none⟩ (.int .i64 (m1.steps + 1))).setCell ⟨g, 38, none⟩ (.bool (decide (m1.pc = back)))) := by
  obtain ⟨f1, t1, a1, a2, a3, a4⟩ := hw
  exact ⟨f1, t1, after_mr a1, ((a2.set (p := ⟨g, 35, none⟩) (.inl (.inl rfl)) _).set (p := ⟨g, 37, none⟩) (.inl (.inl rfl)) _).set (p := ⟨g, 38, none⟩) (.inl (.inl rfl)) _, a3, a4⟩
set_option maxRecDepth 20000 in
set_option maxHeartbeats 2000000 in
theorem step_runs (h : MR W g m c d f t) {A : Option Addr} {cc : Nat} (hc : c = .slice A m.code.length cc) (hcc : m.code.length ≤ cc) (hC : Kd.C (Kd.int .u8) W A m.code.length m.code) (hbc : isBytes m.code) (hcl : m.code.length ≤ 1000000000000000) (hd : m.done = false) (hb : ¬ m.pc = back) (hf : ¬ m.fuel ≤ m.steps) (hft : fetches m = true) (n : Nat) (hdc : dec (word m) = some n) (m1 : Mac) (s0 : -9223372036854775808 ≤ m1.steps) (s1 : m1.steps < 9223372036854775807)
    (HDO : ∀ W', Below W.heap.size W W' → Calls Tryz.prog 45 #[.pointer (some ⟨g, 0, none⟩), insOf n (word m)] W' fun e w' => e = .returned (.tuple #[.int .u64 (U m1.pc), .int .i64 0]) ∧ LftR W' g (setpc m1 m.pc) c d f t w') :
    Calls Tryz.prog 26 #[.pointer (some ⟨g, 0, none⟩)] W fun e w' => e = .returned (.bool (after m1).done) ∧ LftR W g (after m1) c d f t w' := by
  obtain ⟨c0, c38, c35, c36, c37, p0, p1⟩ := tests h hc
  have wL := wrapL _ hcl
  rw [hd] at c38
  have t1 := EStep.pc_ne hb
  have t2 : decide (m.steps ≥ m.fuel) = false := decide_eq_false (by omega)
  have t3 : decide (m.fuel ≤ m.steps) = false := decide_eq_false hf
  unfold fetches at hft
  obtain ⟨b1, b2, b3⟩ := of_decide_eq_true hft
  have hU : U m.pc = ((m.pc.toNat : Nat) : Int) := rfl
  have k1 : (U m.pc % 4 != 0) = false := by rw [bne_eq_false_iff_eq]; omega
  have k2 : decide (U m.pc < 4194304) = false := decide_eq_false (by omega)
  have ws : IntKind.u64.wrap (U m.pc - 4194304) = U m.pc - 4194304 := by simp only [IntKind.wrap, IntKind.bits, IntKind.signed, Bool.false_and, Bool.false_eq_true, if_false]; omega
  have w6 : wrap64 (U m.pc - 4194304) = U m.pc - 4194304 := by unfold wrap64; omega
  have k3 : decide ((m.code.length : Int) < 4) = false := decide_eq_false (by omega)
  have k3' : decide (m.code.length < 4) = false := decide_eq_false (by omega)
  have wl : IntKind.u64.wrap ((m.code.length : Int) - 4) = (m.code.length : Int) - 4 := by simp only [IntKind.wrap, IntKind.bits, IntKind.signed, Bool.false_and, Bool.false_eq_true, if_false]; omega
  have k4 : decide (U m.pc - 4194304 > (m.code.length : Int) - 4) = false := decide_eq_false (by omega)
  have k4' : decide ((m.code.length : Int) - 4 < U m.pc - 4194304) = false := decide_eq_false (by omega)
  have HWD := Aside0.mk (fun W' hw => word_at hcc hC hbc hcl ⟨b2, b3⟩ W' hw)
  have hwl : word m < 4294967296 := EFetch.ld_lt hbc _
  have HDC := Aside0.mk (RDec.decode (word m) hwl)
  have HAD := Aside0.mk (show (after m1).done = decide (m1.pc = back) from rfl)
  have HCL := Aside0.mk (show ∀ W2, LftR W g (setpc m1 m.pc) c d f t W2 → W2.cell? ⟨g, 37, none⟩ = some (.int .i64 m1.steps) ∧ (∃ u, W2.cell? ⟨g, 35, none⟩ = some u) ∧ (∃ u, W2.cell? ⟨g, 38, none⟩ = some u) ∧ W2.frozen? ⟨g, 35, none⟩ = false ∧ W2.frozen? ⟨g, 37, none⟩ = false ∧ W2.frozen? ⟨g, 38, none⟩ = false from fun W2 hw => by
    obtain ⟨f1, t1, a1, a2, a3, a4⟩ := hw
    exact ⟨a1.mb.cell 37 (by omega), ⟨_, a1.mb.cell 35 (by omega)⟩, ⟨_, a1.mb.cell 38 (by omega)⟩, a1.mb.frozen 35, a1.mb.frozen 37, a1.mb.frozen 38⟩)
  have HAF := Aside0.mk (fun (W2 : World) (hw : LftR W g (setpc m1 m.pc) c d f t W2) => after_lft hw)
  have hq := EStep.pc_eq m1.pc
  have hw1 : wrap64 (m1.steps + 1) = m1.steps + 1 := by unfold wrap64; omega
  have HDOA := Aside0.mk HDO
  clear HDO
  have HI := Aside0.mk (show insOf n (word m) = .agg #[.int .i64 (n : Int), .int .i64 (fdOf n (word m) : Nat), .int .i64 (fs1Of n (word m) : Nat), .int .i64 (fs2Of n (word m) : Nat), .int .i64 (immOf (formOf n) (word m))] from rfl)
  have hv : decV (word m) = .tuple #[.agg #[.int .i64 (n : Int), .int .i64 (fdOf n (word m) : Nat), .int .i64 (fs1Of n (word m) : Nat), .int .i64 (fs2Of n (word m) : Nat), .int .i64 (immOf (formOf n) (word m))], .int .i64 0] := by unfold decV; rw [hdc]; rfl
  rw [hv] at HDC
  rw [HI.out] at HDOA
  clear h hd hc hft hv hdc hwl HI
  generalize ((fdOf n (word m) : Nat) : Int) = a1 at *
  generalize ((fs1Of n (word m) : Nat) : Int) = a2 at *
  generalize ((fs2Of n (word m) : Nat) : Int) = a3 at *
  generalize immOf (formOf n) (word m) = a4 at *
  generalize word m = wd at *
  generalize m.code.length = L at *
  clear b1 b2 b3 hU hb hf hC hbc
  generalize U m.pc = p at *
  generalize m.steps = s at *
  generalize m.fuel = u at *
  rw [HAD.out]
  obtain ⟨dn, hdn⟩ : ∃ dn, decide (m1.pc = back) = dn := ⟨_, rfl⟩
  rw [hdn] at HAF hq ⊢
  clear hdn HAD
  obtain ⟨p1, hp1⟩ : ∃ p1, U m1.pc = p1 := ⟨_, rfl⟩
  rw [hp1] at hq HDOA HAF
  clear hp1
  obtain ⟨s2, hs2⟩ : ∃ s2, m1.steps = s2 := ⟨_, rfl⟩
  rw [hs2] at hw1 HCL s0 s1 HAF
  clear hs2
  go_enter Tryz.func26, Tryz.ntmps26
  go_wp2_with fail
  go_quiet (fail)
  go_wp2_with fail
  refine (HWD.out _ (pw_below_drewN (Below.refl _ _) nq)).mono ?_
  rintro e w1 ⟨rfl, hdr⟩
  have HB1 := Aside0.mk (below_step (pw_below_drewN (Below.refl W.heap.size W) nq) hdr.below)
  clear hdr HWD
  go_wp2_with fail
  refine (HDC.out _).mono ?_
  rintro e w2 ⟨rfl, hb2⟩
  have HB2 := Aside0.mk (below_step HB1.out hb2)
  clear hb2 HDC HB1
  go_wp2_with fail
  refine (HDOA.out _ (below_alloc HB2.out _)).mono ?_
  rintro e w3 ⟨rfl, hl3⟩
  have HL3 := Aside0.mk (lft_below (below_alloc HB2.out _) hl3)
  clear hl3
  obtain ⟨y37, ⟨u1, y35⟩, ⟨u2, y38⟩, f35, f37, f38⟩ := HCL.out _ HL3.out
  clear HCL
  go_wp2
  go_ret
  exact ⟨rfl, HAF.out _ HL3.out⟩
theorem step_eq (h : MR W g m c d f t) {S : Nat → Prop} (hc : CodeAt W S c m.code) (hbc : isBytes m.code) (hcl : m.code.length ≤ 1000000000000000) (hl : m.tr.length ≤ 1000000000) (s0 : -9223372036854775808 ≤ m.steps) (s1 : m.steps < 9223372036854775807) :
    Calls Tryz.prog 26 #[.pointer (some ⟨g, 0, none⟩)] W fun e w' => e = .returned (.bool (stepM m).done) ∧ LftR W g (stepM m) c d f t w' := by
  obtain ⟨A, cc, hc1, hc2, hc3, _⟩ := hc
  by_cases hd : m.done = true
  · exact step_done h hc1 hcl hd
  have hd : m.done = false := Bool.eq_false_iff.2 hd
  by_cases hb : m.pc = back
  · exact step_back h hc1 hcl hd hb
  by_cases hf : m.fuel ≤ m.steps
  · exact step_fuel h hc1 hcl hd hb hf
  by_cases hft : fetches m = false
  · exact step_nofetch h hc1 hcl hd hb hf hft
  have hft : fetches m = true := by cases hq : fetches m with
    | true => rfl
    | false => exact absurd hq hft
  cases hdc : dec (word m) with
  | none =>
    have hs : stepM m = fin m 5 := by
      unfold stepM
      rw [if_neg (by rw [hd]; simp), if_neg hb, if_neg hf, if_neg (by rw [hft]; simp), hdc]
    rw [hs, show (fin m 5).done = true from rfl]
    exact step_nodec h hc1 hc2 hc3 hbc hcl hd hb hf hft hdc
  | some n =>
    obtain ⟨n0, n1, _⟩ := dec_some hdc
    by_cases he : (does m n (word m)).2 = 0
    · have hs : stepM m = after (does m n (word m)).1 := by
        unfold stepM
        rw [if_neg (by rw [hd]; simp), if_neg hb, if_neg hf, if_neg (by rw [hft]; simp), hdc]
        simp only [he, if_true]
      rw [hs]
      have hst := EStep.does_steps m n (word m)
      refine step_runs h hc1 hc2 hc3 hbc hcl hd hb hf hft n hdc _ (by rw [hst]; exact s0) (by rw [hst]; exact s1) (fun W' hw => (does_eq (h.below hw) hl n (word m) n0 n1).mono fun e w' hh => ?_)
      obtain ⟨q0, h1, h2, h3⟩ := hh
      rw [he] at h1
      rw [h2 he] at h1
      exact ⟨h1, h3⟩
    · have hs : stepM m = fin m (does m n (word m)).2 := by
        unfold stepM
        rw [if_neg (by rw [hd]; simp), if_neg hb, if_neg hf, if_neg (by rw [hft]; simp), hdc]
        simp only [he, if_false]
      have hm := EStep.does_err m n (word m) he
      rw [hs, show (fin m (does m n (word m)).2).done = true from rfl]
      refine step_fails h hc1 hc2 hc3 hbc hcl hd hb hf hft n hdc _ he (fun W' hw => (does_eq (h.below hw) hl n (word m) n0 n1).mono fun e w' hh => ?_)
      obtain ⟨q0, h1, h2, h3⟩ := hh
      rw [hm, setpc_self] at h3
      exact ⟨q0, h1, h3⟩
end
end Go.Proofs.YtcgkgaibomcheaaGreat.RStep
end

section
namespace Go.Proofs.YtcgkgaibomcheaaGreat.Fill
open Go.RowKit Bits Mb Rd EM PRvemuRuns YtcgkgaibomcheaaGreatW.PrintWords YtcgkgaibomcheaaGreatW.PrintLast YtcgkgaibomcheaaGreatW.PrintMore
def pad (l : List Int) (n : Nat) : List Int := (List.range n).map fun j => l.getD j 0
theorem pad_len (l : List Int) (n : Nat) : (pad l n).length = n := by unfold pad; rw [List.length_map, List.length_range]
theorem pad_get (l : List Int) (n j : Nat) (h : j < n) : (pad l n).getD j 0 = l.getD j 0 := by
  unfold pad
  rw [List.getD_eq_getElem?_getD, List.getElem?_map, List.getElem?_range h]
  rfl
theorem pad_bytes (l : List Int) (n : Nat) (h : isBytes l) : isBytes (pad l n) := by
  intro x hx
  unfold pad at hx
  obtain ⟨j, hj, rfl⟩ := List.mem_map.1 hx
  rw [List.getD_eq_getElem?_getD]
  cases he : l[j]? with
  | none => exact ⟨by decide, by decide⟩
  | some y =>
    obtain ⟨hl, hy⟩ := List.getElem?_eq_some_iff.1 he
    exact h y (hy ▸ List.getElem_mem hl)
theorem add0 (b j : Nat) : (⟨b, 0, none⟩ : Addr).add j = ⟨b, j, none⟩ := by
  cases j <;> simp [Addr.add]
theorem row_of_R {base : Nat} {ok : Nat → Prop} {w : World} {b c : Nat} {l : List Int} (h : Kd.R (Kd.int .u8) 5 w base ok (.slice (some ⟨b, 0, none⟩) l.length c) l) (hl : 0 < l.length) : Row b l w := by
  obtain ⟨go, co, e, gb, gl, cells, hc⟩ := Kd.R_form h hl
  injection e with e1 e2 e3
  injection e1 with e1
  injection e1 with e1
  subst e1
  have hx := (Kd.R_reads' h).2.2
  have hat : ∀ j, j < l.length → cells[j]? = some (.int .u8 (l.getD j 0)) := fun j hj => by
    obtain ⟨ad, e4, h4⟩ := Kd.at_int hx (j : Int) (by omega) (by omega)
    injection e4 with e4
    subst e4
    rw [Int.toNat_natCast, add0, blk_cell hc] at h4
    exact h4
  refine ⟨cells, hc, ?_, hat⟩
  have := (Array.getElem?_eq_some_iff.1 (hat (l.length - 1) (by omega))).1
  omega
theorem slat_of_R {base : Nat} {ok : Nat → Prop} {w : World} {v : Value} {l : List Int} (h : Kd.R (Kd.int .u8) 5 w base ok v l) : SlAt w v l := by
  by_cases hl : 0 < l.length
  · obtain ⟨go, co, e, gb, gl, cells, hc⟩ := Kd.R_form h hl
    subst e
    exact ⟨_, _, rfl, (Kd.R_reads' h).2.1, .inr ⟨go, rfl, row_of_R h hl⟩⟩
  · obtain ⟨A, c, e, h2, h3⟩ := Kd.R_reads h
    exact ⟨A, c, e, h2, .inl (List.eq_nil_of_length_eq_zero (by omega))⟩
def Filled (w : World) (f : Value) (l : List Int) (n : Nat) (w' : World) : Prop := SlAt w' f (pad l n) ∧ (∀ k, some k = f.ownBlock → w.heap.size ≤ k ∧ ∃ cs, w'.heap[k]? = some (.cells cs 5 (0, 0))) ∧ Below w.heap.size w w'
theorem splice_row {w' : World} {g n : Nat} {cells : Array Value} {l : List Int} (h : w'.heap[g]? = some (.cells (splice cells.toList 0 ((l.take n).map (Value.int .u8))).toArray 5 (0, 0))) (hz : ∀ j, j < n → cells[j]? = some (.int .u8 0)) (hc : n ≤ cells.size) : Row g (pad l n) w' := by
  have hm : ((l.take n).map (Value.int .u8)).length = Nat.min n l.length := by rw [List.length_map, List.length_take]
  have hm2 : Nat.min n l.length ≤ n := Nat.min_le_left _ _
  have hct : cells.toList.length = cells.size := Array.length_toList
  refine ⟨_, h, ?_, fun j hj => ?_⟩
  · rw [pad_len]
    rw [List.size_toArray]
    rw [length_splice _ _ _ (by rw [hm, hct]; omega), hct]
    exact hc
  · rw [pad_len] at hj
    rw [pad_get l n j hj, List.getElem?_toArray]
    unfold splice
    rw [List.take_zero, List.nil_append, Nat.zero_add, List.getElem?_append]
    by_cases hl : j < l.length
    · rw [if_pos (by rw [List.length_map, List.length_take]; omega), List.getElem?_map, List.getElem?_take, if_pos hj, List.getD_eq_getElem?_getD, List.getElem?_eq_getElem hl]
      rfl
    · have hlt : Nat.min n l.length = l.length := Nat.min_eq_right (by omega)
      rw [if_neg (by rw [hm, hlt]; omega), List.getElem?_drop, hm, hlt, show l.length + (j - l.length) = j by omega, Array.getElem?_toList, hz j hj, List.getD_eq_getElem?_getD, List.getElem?_eq_none (by omega)]
      rfl
theorem made {base n : Nat} {ok : Nat → Prop} {w : World} {v : Value} (h : Kd.R (Kd.int .u8) 5 w base ok v (List.replicate n 0)) (hn : n ≠ 0) : ∃ gv cv cells, v = .slice (some ⟨gv, 0, none⟩) n cv ∧ n ≤ cv ∧ w.heap[gv]? = some (.cells (cells : Array Value) 5 (0, 0)) ∧ (∀ j, j < n → cells[j]? = some (.int .u8 0)) ∧ n ≤ cells.size ∧ base ≤ gv := by
  obtain ⟨gv, co, e, gb, gl, cells, hc⟩ := Kd.R_form h (by rw [List.length_replicate]; omega)
  rw [List.length_replicate] at e
  subst e
  have hat : ∀ j, j < n → cells[j]? = some (.int .u8 0) := fun j hj => by
    obtain ⟨ad, e4, h4⟩ := Kd.at_int (Kd.R_reads' h).2.2 (j : Int) (by omega) (by rw [List.length_replicate]; omega)
    injection e4 with e4
    subst e4
    rw [Int.toNat_natCast, add0, blk_cell hc] at h4
    rw [h4]
    unfold rd
    simp [List.getD_eq_getElem?_getD, List.getElem?_replicate, hj]
  refine ⟨gv, co, cells, rfl, (Kd.R_reads' h).2.1, hc, hat, ?_, gb⟩
  have := (Array.getElem?_eq_some_iff.1 (hat (n - 1) (by omega))).1
  omega
theorem src34 {k : IntKind} {w w5 : World} {A : Option Addr} {l : List Int} {n : Nat} {X : Prop} (hx : X) (HR : (Kd.int k).C w A l.length l) (HB : Below w.heap.size w w5) : 0 < ((l.take n).map (Value.int k)).length → X ∧ ∃ ad, A = some ad ∧ ∀ j v, ((l.take n).map (Value.int k))[j]? = some v → w5.cell? (ad.add j) = some v := by
  intro hp
  rw [List.length_map, List.length_take] at hp
  refine ⟨hx, ?_⟩
  obtain ⟨ad, ea, _⟩ := HR.2.2 (by omega)
  refine ⟨ad, ea, fun j v hj => ?_⟩
  obtain ⟨hjl, hjv⟩ := List.getElem?_eq_some_iff.1 hj
  rw [List.length_map, List.length_take] at hjl
  obtain ⟨ad2, e4, h4⟩ := Kd.at_int HR (j : Int) (by omega) (by omega)
  rw [ea] at e4
  injection e4 with e4
  subst e4
  rw [Int.toNat_natCast] at h4
  rw [(HB.cell (World.block_lt_of_cell? w _ h4)).trans h4, ← hjv]
  rw [List.getElem_map, List.getElem_take]
  unfold rd
  simp [List.getD_eq_getElem?_getD, List.getElem?_eq_getElem (show j < l.length by omega)]
theorem src_len {k : IntKind} (l : List Int) (n : Nat) : ((l.take n).map (Value.int k)).length = Nat.min l.length n := by
  rw [List.length_map, List.length_take]
  exact Nat.min_comm _ _
theorem src_fit (l : List Int) {n : Nat} {cells : Array Value} (h : n ≤ cells.size) : 0 + ((l.take n).map (Value.int .u8)).length ≤ cells.toList.length := by
  have h2 : Nat.min l.length n ≤ n := Nat.min_le_right _ _
  rw [src_len, Array.length_toList (xs := cells)]
  omega
theorem src_one {k : IntKind} (l : List Int) (n : Nat) : ∀ v ∈ (l.take n).map (Value.int k), v.oneCell' = true := by
  intro v hv
  obtain ⟨x, _, rfl⟩ := List.mem_map.1 hv
  rfl
set_option maxRecDepth 20000 in
theorem filled34 (A : Option Addr) (c : Nat) (l : List Int) (n : Nat) (w : World) (hr : (Kd.int .u8).C w A l.length l) (hn : n ≤ 1048576) :
    Calls Tryz.prog 34 #[.slice A l.length c, .int .i64 (n : Int)] w fun e w' => ∃ f : Value, e = .returned f ∧ Filled w f l n w' := by
  have HR := Aside0.mk hr
  clear hr
  have HN := Aside0.mk hn
  clear hn
  by_cases h0 : n = 0
  · have HN0 := Aside0.mk h0
    clear h0
    go_enter Tryz.func34, Tryz.ntmps34
    go_wp2_with (first | ((with_reducible refine gate_dst (N := 7) rfl ?_); refine Kd.R_make (Kd.int .u8) (w0 := w) w.heap.size 5 rfl (N := 7) rfl 22 _ _ rfl (n : Int) rfl rfl Tryz.underlying22 (.int .u8 0) 1 info5 rfl (by decide) (by omega) 0 (ok := fun _ => True) (okp := fun _ => True) rfl (fun _ hk => hk) trivial (by omega) (by have := HN.out; omega) (Below.refl _ _) (Nat.le_refl _) ?_; intro v243 w5 ho6 hb hg_ hnew_; clear hg_ hnew_; rw [Int.toNat_natCast] at ho6; obtain ⟨Av, cv, ev⟩ := Kd.R_slice ho6; rw [List.length_replicate] at ev; subst ev; have HO := Aside0.mk ho6; have HB2 := Aside0.mk hb; clear ho6 hb) | ((with_reducible refine gate_dst (N := 10) rfl ?_); (refine wpList_copy_nothing rfl (.tmp 8) (.tmp 9) 22 22 rfl 5 Tryz.underlying22 (by kernel_rfl) _ _ _ _ _ _ rfl rfl (by rw [HN0.out]; exact Nat.min_zero _) ?_)))
    go_ret
    exact ⟨_, rfl, slat_of_R (by rw [HN0.out] at *; exact HO.out), fun k hk => ⟨Kd.R_base HO.out k hk.symm, Kd.R_typed HO.out k hk.symm⟩, HB2.out⟩
  · have HN0 := Aside0.mk h0
    clear h0
    go_enter Tryz.func34, Tryz.ntmps34
    go_wp2_with (first | ((with_reducible refine gate_dst (N := 7) rfl ?_); refine Kd.R_make (Kd.int .u8) (w0 := w) w.heap.size 5 rfl (N := 7) rfl 22 _ _ rfl (n : Int) rfl rfl Tryz.underlying22 (.int .u8 0) 1 info5 rfl (by decide) (by omega) 0 (ok := fun _ => True) (okp := fun _ => True) rfl (fun _ hk => hk) trivial (by omega) (by have := HN.out; omega) (Below.refl _ _) (Nat.le_refl _) ?_; intro v243 w5 ho6 hb hg_ hnew_; clear hg_ hnew_; rw [Int.toNat_natCast] at ho6; obtain ⟨gv, cv, cells, ev, hv1, hv2, hv3, hv4, hv5⟩ := made ho6 HN0.out; subst ev; have HTL := Aside0.mk (Array.toArray_toList (xs := cells)); have HO := Aside0.mk hv1; have HC := Aside0.mk hv2; have HAT := Aside0.mk hv3; have HSZ := Aside0.mk hv4; have HGB := Aside0.mk hv5; have HB2 := Aside0.mk hb; clear ho6 hb hv1 hv2 hv3 hv4 hv5) | ((with_reducible refine gate_dst (N := 10) rfl ?_); (refine wpList_copy_splice rfl (.tmp 8) (.tmp 9) 22 22 rfl 5 Tryz.underlying22 (by kernel_rfl) _ _ _ _ _ _ rfl rfl gv 0 cells.toList 5 HC.out ((l.take n).map (Value.int .u8)) (src_len l n) (src34 rfl HR.out HB2.out) (src_fit l HSZ.out) (src_one l n) w.heap.size w HB2.out HGB.out ?_); intro w6 HG6 HB6))
    have h6 := HG6.out
    go_ret
    refine ⟨.slice (some ⟨gv, 0, none⟩) n cv, rfl, ⟨_, cv, by rw [pad_len], by rw [pad_len]; exact HO.out, .inr ⟨gv, rfl, splice_row h6 HAT.out HSZ.out⟩⟩, fun k hk => ?_, HB6⟩
    have hk' : k = gv := by simpa [Value.ownBlock] using hk
    subst hk'
    exact ⟨HGB.out, _, h6⟩
theorem pad_ext {l x : List Int} {n : Nat} (h : x.length = n) (hx : ∀ j, j < n → x.getD j 0 = l.getD j 0) : x = pad l n := by
  apply List.ext_getElem
  · rw [h, pad_len]
  · intro j h1 h2
    rw [h] at h1
    have a := hx j h1
    rw [← pad_get l n j h1] at a
    rw [List.getD_eq_getElem?_getD, List.getD_eq_getElem?_getD, List.getElem?_eq_getElem (by omega), List.getElem?_eq_getElem h2] at a
    exact a
theorem loop36 (l : List Int) (n : Nat) (hn : n ≤ 1048576) : ∀ (k i : Nat) (x : List Int), n - i < k → i ≤ n → x.length = n → (∀ j, j < i → x.getD j 0 = l.getD j 0) → (∀ j, i ≤ j → x.getD j 0 = 0) → ravelinref16_filled.l0 k l (n : Int) x (i : Int) = some (pad l n)
  | 0, i, x, hk, _, _, _, _ => by omega
  | k + 1, i, x, hk, hi, hx, h1, h2 => by
    unfold ravelinref16_filled.l0
    by_cases hin : i < n
    · rw [if_pos (by omega)]
      by_cases hl : i < l.length
      · rw [if_pos (by omega), if_pos (by omega), if_pos (by omega)]
        have hw : wrap64 ((i : Int) + 1) = ((i + 1 : Nat) : Int) := by
          unfold wrap64
          simp only [Int.natCast_add]
          omega
        rw [hw]
        refine loop36 l n hn k (i + 1) _ (by omega) (by omega) (by rw [List.length_set]; exact hx) (fun j hj => ?_) (fun j hj => ?_)
        · rw [Int.toNat_natCast, List.getD_eq_getElem?_getD, List.getElem?_set]
          by_cases hji : i = j
          · subst hji
            rw [if_pos rfl, if_pos (by omega)]
            unfold rd
            simp
          · rw [if_neg hji, ← List.getD_eq_getElem?_getD]
            exact h1 j (by omega)
        · rw [Int.toNat_natCast, List.getD_eq_getElem?_getD, List.getElem?_set, if_neg (by omega), ← List.getD_eq_getElem?_getD]
          exact h2 j (by omega)
      · rw [if_neg (by omega)]
        refine congrArg some (pad_ext hx fun j hj => ?_)
        by_cases hji : j < i
        · exact h1 j hji
        · rw [h2 j (by omega), List.getD_eq_getElem?_getD, List.getElem?_eq_none (by omega)]
          rfl
    · rw [if_neg (by omega)]
      exact congrArg some (pad_ext hx fun j hj => h1 j (by omega))
theorem f36 (l : List Int) (n : Nat) (hn : n ≤ 1048576) : ravelinref16_filled.f (n + 1) l (n : Int) = some (pad l n) := by
  unfold ravelinref16_filled.f
  rw [if_pos (by omega), if_pos (by omega), Int.toNat_natCast]
  exact loop36 l n hn (n + 1) 0 _ (by omega) (by omega) (List.length_replicate) (fun j hj => by omega) (fun j hj => by
    rw [List.getD_eq_getElem?_getD, List.getElem?_replicate]
    split <;> rfl)
theorem filled36 (A : Option Addr) (c : Nat) (l : List Int) (n : Nat) (w : World) (hr : (Kd.int .u8).C w A l.length l) (hc : l.length ≤ c) (hn : n ≤ 1048576) :
    Calls Tryz.prog 36 #[.slice A l.length c, .int .i64 (n : Int)] w fun e w' => ∃ f : Value, e = .returned f ∧ Filled w f l n w' := by
  refine (ravelinref16_filled.calls (n + 1) A c l (n : Int) _ w hr hc (f36 l n hn)).mono fun e w' hh => ?_
  obtain ⟨v, he, hR, hb⟩ := hh
  exact ⟨v, he, slat_of_R hR, fun k hk => ⟨Kd.R_base hR k hk.symm, Kd.R_typed hR k hk.symm⟩, hb⟩
end Go.Proofs.YtcgkgaibomcheaaGreat.Fill
end
