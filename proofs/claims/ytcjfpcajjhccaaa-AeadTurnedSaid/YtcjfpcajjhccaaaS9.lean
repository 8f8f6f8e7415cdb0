/- Walks of the stream layer, ninth part: what every right program answers. -/
import Derived.Test.YtcjfpcajjhccaaaS8
set_option linter.unusedVariables false
set_option linter.unusedSimpArgs false
namespace Go.Proofs.Ytcjfpcajjhccaaa
open Go.RowKit
def upTo (n : Nat) : List Int := (List.range n).map fun i => ((i : Nat) : Int)
theorem upTo_succ (n : Nat) : upTo (n + 1) = upTo n ++ [(n : Int)] := by simp [upTo, List.range_succ]
theorem upTo_length (n : Nat) : (upTo n).length = n := by simp [upTo]
def aliveNonce : ByteArray := ⟨#[0, 0, 0, 9, 0, 0, 0, 74, 0, 0, 0, 0]⟩
def aliveBlock : ByteArray := strOfNums (blockB (upTo 32) (bytesOf aliveNonce) 1)
theorem alive_len : aliveBlock.size = 64 := by rw [aliveBlock, strOfNums_size, blockB_length]
theorem alive_head : aliveBlock.extract 0 4 = ⟨#[16, 241, 231, 228]⟩ := by decide +kernel
theorem upTo_bytes : ∀ x ∈ upTo 32, isByte x := by
  intro x hx
  simp only [upTo, List.mem_map, List.mem_range] at hx
  obtain ⟨i, h, rfl⟩ := hx
  exact ⟨by omega, by omega⟩
set_option maxRecDepth 100000 in
theorem alive18 (w : World) : Calls Try.prog 18 #[] w fun e w' => e = .returned (.bool true) ∧ Below w.heap.size w w' := by
  have M0 := Mem.start w
  have HA := hid (fun w => Block19 (upTo 32) aliveNonce 1 w (upTo_length 32) upTo_bytes rfl)
  have HL := hid alive_len
  have HH := hid alive_head
  go_enter Try.func18, Try.ntmps18
  go_wp2_with (first | (apply wpList_alN z23 1; (· rfl); (· rfl); (· rfl); (· assumption); intro b1 w' M'; (conv => arg 5; simp only [Act.put, List.setIfInBounds_toArray, List.set_cons_succ, List.set_cons_zero])) | (apply wpList_stN s5; (· rfl); (· rfl); (· rfl); (· rfl); (· assumption); (· (repeat (first | exact Swap.head | apply Swap.tail))); (· (first | with_reducible assumption | omega | (simp only [nums_length, List.length_set, List.length_replicate]; first | with_reducible assumption | omega) | rfl | (simp [*]; done) | (simp [*]; omega))); intro w' M'; (conv => arg 5; simp only [Act.put, List.setIfInBounds_toArray, List.set_cons_succ, List.set_cons_zero])) | (apply wpList_ldrowN Try.underlying23 s23; (· rfl); (· rfl); (· rfl); (· rfl); (· assumption); (· (repeat (first | exact List.mem_cons_self | refine List.mem_cons_of_mem _ ?_))); (· (first | with_reducible assumption | omega | (simp only [nums_length, List.length_set, List.length_replicate]; first | with_reducible assumption | omega) | rfl | (simp [*]; done) | (simp [*]; omega))); (conv => arg 5; simp only [Act.put, List.setIfInBounds_toArray, List.set_cons_succ, List.set_cons_zero])) | (apply wpList_wantSl; (· rfl)))
  go_loopw [2] (fun n wr => ∃ i : Nat, i ≤ 32 ∧ n = .int .i64 i ∧ Mem w [] wr [.blk b1 (rowO .u8 23 (upTo i ++ List.replicate (32 - i) 0))]) (fun n _ => 32 - (intOf n).toNat)
  case atStart => exact ⟨0, by omega, rfl, M'⟩
  case round =>
    obtain ⟨i, hi, rfl, Mi⟩ := hrel
    clear M'
    by_cases hlt : i < 32
    · have hltI : (i : Int) < 32 := by omega
      have hlen : (upTo i ++ List.replicate (32 - i) 0).length = 32 := by rw [List.length_append, upTo_length, List.length_replicate]; omega
      have hrow := hid (fill_set (upTo i) (32 - i) i (i : Int) (by rw [upTo_length]) (by omega))
      go_wp2_with (first | (apply wpList_alN z23 1; (· rfl); (· rfl); (· rfl); (· assumption); intro b1 w' M'; (conv => arg 5; simp only [Act.put, List.setIfInBounds_toArray, List.set_cons_succ, List.set_cons_zero])) | (apply wpList_stN s5; (· rfl); (· rfl); (· rfl); (· rfl); (· assumption); (· (repeat (first | exact Swap.head | apply Swap.tail))); (· (first | with_reducible assumption | omega | (simp only [nums_length, List.length_set, List.length_replicate]; first | with_reducible assumption | omega) | rfl | (simp [*]; done) | (simp [*]; omega))); intro w' M'; (conv => arg 5; simp only [Act.put, List.setIfInBounds_toArray, List.set_cons_succ, List.set_cons_zero])) | (apply wpList_ldrowN Try.underlying23 s23; (· rfl); (· rfl); (· rfl); (· rfl); (· assumption); (· (repeat (first | exact List.mem_cons_self | refine List.mem_cons_of_mem _ ?_))); (· (first | with_reducible assumption | omega | (simp only [nums_length, List.length_set, List.length_replicate]; first | with_reducible assumption | omega) | rfl | (simp [*]; done) | (simp [*]; omega))); (conv => arg 5; simp only [Act.put, List.setIfInBounds_toArray, List.set_cons_succ, List.set_cons_zero])) | (apply wpList_wantSl; (· rfl)))
      go_roundw
      case rel =>
        refine ⟨i + 1, by omega, by go_num, ?_⟩
        rw [hrow.out] at M'
        rw [upTo_succ, show 32 - (i + 1) = 32 - i - 1 from by omega]
        exact M'
      case measure => simp [intOf]; omega
    · obtain rfl : i = 32 := by omega
      rw [show ((32 : Nat) : Int) = 32 from rfl]
      have hlen : (upTo 32 ++ List.replicate (32 - 32) 0).length = 32 := by rw [List.length_append, upTo_length, List.length_replicate]
      have M2 : Mem w [] wr [.blk b1 (rowO .u8 23 (upTo 32))] := by simpa using Mi
      have hlen := upTo_length 32
      clear Mi
      go_wp2_with (first | (apply wpList_alN z23 1; (· rfl); (· rfl); (· rfl); (· assumption); intro b1 w' M'; (conv => arg 5; simp only [Act.put, List.setIfInBounds_toArray, List.set_cons_succ, List.set_cons_zero])) | (apply wpList_stN s5; (· rfl); (· rfl); (· rfl); (· rfl); (· assumption); (· (repeat (first | exact Swap.head | apply Swap.tail))); (· (first | with_reducible assumption | omega | (simp only [nums_length, List.length_set, List.length_replicate]; first | with_reducible assumption | omega) | rfl | (simp [*]; done) | (simp [*]; omega))); intro w' M'; (conv => arg 5; simp only [Act.put, List.setIfInBounds_toArray, List.set_cons_succ, List.set_cons_zero])) | (apply wpList_ldrowN Try.underlying23 s23; (· rfl); (· rfl); (· rfl); (· rfl); (· assumption); (· (repeat (first | exact List.mem_cons_self | refine List.mem_cons_of_mem _ ?_))); (· (first | with_reducible assumption | omega | (simp only [nums_length, List.length_set, List.length_replicate]; first | with_reducible assumption | omega) | rfl | (simp [*]; done) | (simp [*]; omega))); (conv => arg 5; simp only [Act.put, List.setIfInBounds_toArray, List.set_cons_succ, List.set_cons_zero])) | (apply wpList_wantSl; (· rfl)))
      refine (HA.out _).mono ?_; rintro e w' ⟨rfl, hb⟩; replace M2 := M2.call hb
      have e0 : strOfNums (blockB (upTo 32) (bytesOf aliveNonce) 1) = aliveBlock := rfl
      rw [e0]
      clear e0
      obtain ⟨ab, hab⟩ : ∃ x, x = aliveBlock := ⟨_, rfl⟩
      rw [← hab] at HL HH ⊢
      clear hab HA
      have l0 : ((ab.size : Int) == 64) = true := by rw [beq_iff_eq]; have := HL.out; omega
      have l1 : (4 : Int) ≤ (ab.size : Int) := by have := HL.out; omega
      have l2 : 4 ≤ ab.size := by have := HL.out; omega
      have l3 : ((ab.extract 0 4).toList == [16, 241, 231, 228]) = true := by rw [HH.out]; decide +kernel
      go_wp2_with fail
      go_ret
      exact ⟨rfl, M2.below⟩
end Go.Proofs.Ytcjfpcajjhccaaa
