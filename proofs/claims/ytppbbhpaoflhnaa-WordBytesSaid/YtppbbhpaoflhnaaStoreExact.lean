/- A contract of word.Store to the byte: which cells of which block are written, all else as it was. Conditions: the bytes are there. -/
import Derived.Test.YtppbbhpaoflhnaaPWordBytesx1
import Derived.Test.YtppbbhpaoflhnaaBytes
namespace Go.Proofs.Ytppbbhpaoflhnaa.StoreExact
open Go.RowKit Go.Proofs.Ytppbbhpaoflhnaa.PWordBytes Go.Proofs.Ytppbbhpaoflhnaa.Bits Go.Proofs.YtppbbhpaoflhnaaW.PrintWords Go.Proofs.YtppbbhpaoflhnaaW.PrintLast Go.Proofs.YtppbbhpaoflhnaaW.PrintMore

/-- The bytes of a number written into a block, from a place on. -/
def put (w : World) (g o : Nat) (v : BitVec 64) : Nat → World
  | 0 => w
  | i + 1 => (put w g o v i).setCell ⟨g, o + i, none⟩ (.int .u8 (Bits.byteOf v i))
/-- The same, of the block's cells. -/
def putC (cs : Array Value) (o : Nat) (v : BitVec 64) : Nat → Array Value
  | 0 => cs
  | i + 1 => (putC cs o v i).setIfInBounds (o + i) (.int .u8 (Bits.byteOf v i))
theorem putC_size (cs : Array Value) (o : Nat) (v : BitVec 64) : ∀ i, (putC cs o v i).size = cs.size
  | 0 => rfl
  | i + 1 => by unfold putC; rw [Array.size_setIfInBounds, putC_size cs o v i]
theorem put_block {w : World} {g o : Nat} {v : BitVec 64} {cs : Array Value} {T : TypeId} (hb : w.heap[g]? = some (.cells cs T (0, 0))) : ∀ i, (put w g o v i).heap[g]? = some (.cells (putC cs o v i) T (0, 0))
  | 0 => hb
  | i + 1 => blk_set (put_block hb i) _ _
theorem put_other (w : World) (g o : Nat) (v : BitVec 64) (k : Nat) (hk : k ≠ g) : ∀ i, (put w g o v i).heap[k]? = w.heap[k]?
  | 0 => rfl
  | i + 1 => (Below.heap_setCell _ _ _ _ (by simpa using hk)).trans (put_other w g o v k hk i)
theorem put_size (w : World) (g o : Nat) (v : BitVec 64) : ∀ i, (put w g o v i).heap.size = w.heap.size
  | 0 => rfl
  | i + 1 => by unfold put; rw [World.size_setCell, put_size w g o v i]
theorem put_rest (w : World) (g o : Nat) (v : BitVec 64) : ∀ i, (put w g o v i).os = w.os ∧ (put w g o v i).tape = w.tape ∧ (put w g o v i).output = w.output
  | 0 => ⟨rfl, rfl, rfl⟩
  | i + 1 => put_rest w g o v i
theorem byte_div (v : BitVec 64) (i : Nat) : U v / 2 ^ (8 * i) % 256 = Bits.byteOf v i := by
  unfold U Bits.byteOf
  rw [BitVec.toNat_ushiftRight, Nat.shiftRight_eq_div_pow]
  simp
set_option maxRecDepth 100000 in
set_option maxHeartbeats 800000 in
theorem calls (g o len cap : Nat) (a n : Nat) (v : BitVec 64) (w : World) (T : TypeId) (cs : Array Value) (hb : w.heap[g]? = some (.cells cs T (0, 0))) (hs : o + len ≤ cs.size) (hl : len ≤ 1000000000000000)
    (hn1 : 1 ≤ n) (hn8 : n ≤ 8) (ha : a + n ≤ len) (t : Calls Try.prog 29 #[.slice (some ⟨g, o, none⟩) len cap, .int .i64 a, .int .i64 n] w fun e w' => e = .returned (.bool true) ∧ Drawn0 w w') :
    Calls Try.prog 25 #[.slice (some ⟨g, o, none⟩) len cap, .int .i64 a, .int .i64 n, .int .u64 (U v)] w fun e w' => e = .returned (.int .i64 0) ∧ ∃ m, w' = put (w.drewN m) g (o + a) v n := by
  have HS := Aside0.mk hs
  have HT := Aside0.mk t
  have HBK := Aside0.mk hb
  clear t hb hs
  go_enter Try.func25, Try.ntmps25
  go_wp2_with fail
  refine HT.out.mono ?_
  rintro e w1 ⟨rfl, hw1⟩
  obtain ⟨m, rfl⟩ := hw1.out
  have BK := Aside0.mk (blk_drewN HBK.out m)
  clear hw1 HBK HT
  go_wp2_with fail
  go_loopw [16] (fun v16 w' => ∃ i : Nat, i ≤ n ∧ v16 = .int .i64 i ∧ Aside0 (w' = put (w.drewN m) g (o + a) v i)) (fun v16 _ => n - (intOf v16).toNat)
  case atStart => exact ⟨0, by omega, rfl, ⟨rfl⟩⟩
  case round =>
    obtain ⟨i, hi, rfl, hw⟩ := hrel
    have hw' := hw.out
    clear hw
    subst hw'
    by_cases hlt : i < n
    · have hc : (put (w.drewN m) g (o + a) v i).cell? ⟨g, o + (a + i), none⟩ = some ((putC cs (o + a) v i)[o + (a + i)]'(by rw [putC_size]; have := HS.out; omega)) := by
        rw [blk_cell (put_block BK.out i)]
        exact Array.getElem?_eq_getElem _
      have hf := blk_frozen (put_block (o := o + a) (v := v) BK.out i) (o + (a + i))
      go_wp2
      refine ⟨⟨i + 1, by omega, by go_num, ⟨?_⟩⟩, by simp [intOf]; omega⟩
      rw [byte_div]
      show _ = (put (w.drewN m) g (o + a) v i).setCell ⟨g, o + a + i, none⟩ _
      rw [Nat.add_assoc]
    · obtain rfl : i = n := by omega
      go_wp2
      go_ret
      exact ⟨rfl, m, rfl⟩
end Go.Proofs.Ytppbbhpaoflhnaa.StoreExact
