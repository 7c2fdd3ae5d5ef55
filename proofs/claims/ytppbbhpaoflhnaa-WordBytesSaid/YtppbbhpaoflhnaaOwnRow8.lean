/- What the walk of WordBytes needs of rows: a row of the call's own, opened to its block; the block with a byte behind the row; Store over it. Conditions: those of each theorem. -/
import Derived.Test.YtppbbhpaoflhnaaStoreExact
import Derived.Test.YtppbbhpaoflhnaaPureWordBytes
namespace Go.Proofs.Ytppbbhpaoflhnaa.OwnRow8
open Go.RowKit Go.Proofs.Ytppbbhpaoflhnaa.PWordBytes Go.Proofs.Ytppbbhpaoflhnaa.Bits Go.Proofs.Ytppbbhpaoflhnaa.StoreExact Go.Proofs.YtppbbhpaoflhnaaW.PrintWords Go.Proofs.YtppbbhpaoflhnaaW.PrintLast Go.Proofs.YtppbbhpaoflhnaaW.PrintMore
set_option linter.unusedVariables false

/-- A row of whole numbers of the call's own: its block. -/
theorem own_open {k : IntKind} {e base : Nat} {w : World} {ok : Nat → Prop} {v : Value} {xs : List Int} (h : Kd.R (Kd.int k) e w base ok v xs) (hne : 0 < xs.length) :
    ∃ (g cap : Nat) (cs : Array Value), v = .slice (some ⟨g, 0, none⟩) xs.length cap ∧ base ≤ g ∧ xs.length ≤ cap ∧ cap ≤ maxLen ∧ cs.size = cap ∧ w.heap[g]? = some (.cells cs e (0, 0)) ∧ ∀ j, j < xs.length → cs[j]? = some (.int k (xs.getD j 0)) := by
  obtain ⟨A, c, hv, hl, hr⟩ := Kd.R_reads h
  obtain ⟨inner, ho⟩ := Kd.R_own h
  rcases ho.2 with ⟨_, h0⟩ | ⟨g, cap, cur, he, hb, hh, h1, h2, h3, _⟩
  · omega
  · refine ⟨g, cap, cur, he, hb, h1, h2, ?_, hh, fun j hj => ?_⟩
    · have : (Kd.int k).sz = 1 := rfl
      rw [h3, this, Nat.mul_one]
    · rw [hv] at he
      injection he with ha
      subst ha
      have rr := Kd.reads_of_C (enc := Value.int k) (d := (0 : Int)) (h1 := fun _ => rfl) hr
      obtain ⟨ad, e1, hc⟩ := rr.2.2 hne
      injection e1 with e1
      subst e1
      have := hc j hj
      rw [add_plain] at this
      rw [← this]
      exact (blk_cell hh j).symm
/-- The block g holds the bytes x, and 77 behind them. -/
def Own (g : Nat) (x : List Int) (W : World) : Prop := ∃ cs : Array Value, W.heap[g]? = some (.cells cs 5 (0, 0)) ∧ x.length < cs.size ∧ (∀ j, j < x.length → cs[j]? = some (.int .u8 (x.getD j 0))) ∧ cs[x.length]? = some (.int .u8 77)
theorem Own.of {g : Nat} {x : List Int} {W W' : World} (h : Own g x W) (hb : W'.heap[g]? = W.heap[g]?) : Own g x W' := by
  obtain ⟨cs, h1, h2⟩ := h
  exact ⟨cs, hb.trans h1, h2⟩
theorem Own.reads {g : Nat} {x : List Int} {W : World} (h : Own g x W) (hl : x.length ≤ 1000000000000000) : Kd.C (Kd.int .u8) W (some ⟨g, 0, none⟩) x.length x := by
  obtain ⟨cs, h1, h2, h3, _⟩ := h
  refine ⟨rfl, by omega, fun hn => ⟨_, rfl, fun j p hj => ⟨[.int .u8 p], rfl, rfl, fun i u hi => ?_⟩⟩⟩
  obtain ⟨hjl, hjp⟩ := List.getElem?_eq_some_iff.1 hj
  have hi0 : i = 0 := by
    have := (List.getElem?_eq_some_iff.1 hi).1
    simpa using this
  subst hi0
  have hu : u = .int .u8 p := by simpa using hi.symm
  subst hu
  rw [add_plain, blk_cell h1, show j * (Kd.int .u8).sz + 0 = j from by show j * 1 + 0 = j; omega, h3 j hjl]
  rw [List.getD_eq_getElem?_getD, List.getElem?_eq_getElem hjl, ← hjp]
  rfl
theorem putC_at (cs : Array Value) (o : Nat) (v : BitVec 64) : ∀ (i j : Nat), j < cs.size → (putC cs o v i)[j]? = if o ≤ j ∧ j < o + i then some (.int .u8 (Bits.byteOf v (j - o))) else cs[j]?
  | 0, j, _ => by rw [if_neg (by omega)]; rfl
  | i + 1, j, hj => by
    unfold putC
    rw [Array.getElem?_setIfInBounds]
    by_cases e : o + i = j
    · subst e
      have hs := putC_size cs o v i
      rw [if_pos rfl, if_pos (by omega), if_pos (by omega)]
      have : o + i - o = i := by omega
      rw [this]
    · rw [if_neg e, putC_at cs o v i j hj]
      by_cases h : o ≤ j ∧ j < o + i
      · rw [if_pos h, if_pos (by omega)]
      · rw [if_neg h, if_neg (by omega)]
theorem Own.put {g : Nat} {x : List Int} {W : World} (h : Own g x W) (a : Nat) (v : BitVec 64) (m : Nat) (ha : a + m ≤ x.length) : Own g (st x a v m) (put W g (0 + a) v m) := by
  obtain ⟨cs, h1, h2, h3, h4⟩ := h
  have hl := st_length x a v m
  refine ⟨putC cs (0 + a) v m, put_block h1 m, by rw [hl, putC_size]; exact h2, fun j hj => ?_, ?_⟩
  · rw [hl] at hj
    rw [putC_at _ _ _ _ _ (by omega), st_at x a v m j hj, Nat.zero_add]
    by_cases hc : a ≤ j ∧ j < a + m
    · rw [if_pos hc, if_pos hc]
    · rw [if_neg hc, if_neg hc]; exact h3 j hj
  · rw [hl, putC_at _ _ _ _ _ (by omega), if_neg (by omega)]
    exact h4
/-- What a call that writes block g alone leaves. -/
structure Only (g : Nat) (W W' : World) : Prop where
  os : W'.os = W.os
  tape : W'.tape = W.tape
  output : W'.output = W.output
  size : W'.heap.size = W.heap.size
  block : ∀ k, k ≠ g → W'.heap[k]? = W.heap[k]?
set_option maxRecDepth 100000 in
theorem store (g cap : Nat) (x : List Int) (a n : Int) (v : BitVec 64) (W : World) (h : Own g x W) (hl : x.length ≤ 1000000000000000) (hc : x.length ≤ cap) :
    Calls Try.prog 25 #[.slice (some ⟨g, 0, none⟩) x.length cap, .int .i64 a, .int .i64 n, .int .u64 (U v)] W fun e w' => e = .returned (.int .i64 (Pure.WordBytes.stE x a n)) ∧ Own g (Pure.WordBytes.stL x a n v) w' ∧ Only g W w' := by
  by_cases hok : 1 ≤ n ∧ n ≤ 8 ∧ 0 ≤ a ∧ a + n ≤ x.length
  · have t := word_there.calls (some ⟨g, 0, none⟩) cap x a n true W (h.reads hl) hc (Pure.WordBytes.there_yes x hl a n hok)
    obtain ⟨h1, h2, h3, h4⟩ := hok
    obtain ⟨cs, b1, b2, _⟩ := id h
    have ea : ((a.toNat : Nat) : Int) = a := by omega
    have en : ((n.toNat : Nat) : Int) = n := by omega
    have cc := StoreExact.calls g 0 x.length cap a.toNat n.toNat v W 5 cs b1 (by omega) hl (by omega) (by omega) (by omega) (by rw [ea, en]; exact t)
    rw [ea, en] at cc
    refine cc.mono ?_
    rintro e w' ⟨rfl, m, rfl⟩
    unfold Pure.WordBytes.stE Pure.WordBytes.stL
    rw [if_pos ⟨h1, h2, h3, h4⟩, if_pos ⟨h1, h2, h3, h4⟩]
    refine ⟨rfl, Own.put (h.of (W' := W.drewN m) rfl) a.toNat v n.toNat (by omega), ?_⟩
    obtain ⟨r1, r2, r3⟩ := put_rest (W.drewN m) g (0 + a.toNat) v n.toNat
    exact ⟨r1, r2, r3, put_size _ _ _ _ _, fun k hk => put_other _ _ _ _ k hk _⟩
  · have t := word_there.calls (some ⟨g, 0, none⟩) cap x a n false W (h.reads hl) hc (Pure.WordBytes.there_no x hl a n hok)
    unfold Pure.WordBytes.stE Pure.WordBytes.stL
    rw [if_neg hok, if_neg hok]
    have HT := Aside0.mk t
    have HO := Aside0.mk h
    clear t h hok hl hc
    go_enter Try.func25, Try.ntmps25
    go_wp2_with fail
    refine HT.out.mono ?_
    rintro e w1 ⟨rfl, hw1⟩
    obtain ⟨m, rfl⟩ := hw1.out
    clear HT hw1
    go_wp2
    go_ret
    exact ⟨rfl, HO.out.of rfl, ⟨rfl, rfl, rfl, rfl, fun _ _ => rfl⟩⟩
end Go.Proofs.Ytppbbhpaoflhnaa.OwnRow8
