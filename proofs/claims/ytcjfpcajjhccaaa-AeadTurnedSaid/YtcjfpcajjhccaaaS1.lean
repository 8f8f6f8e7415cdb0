/- Walks of the stream layer, first part: words and begin. -/
import Derived.Test.YtcjfpcajjhccaaaFacts
set_option linter.unusedVariables false
set_option linter.unusedSimpArgs false
namespace Go.Proofs.Ytcjfpcajjhccaaa
open Go.RowKit
/-- A word of four bytes, as the program reckons it. -/
def or4 (a b c d : Int) : Int := bits .or .u32 (bits .or .u32 (bits .or .u32 a (b * 256)) (c * 65536)) (d * 16777216)
def le4 (xs : List Int) (i : Nat) : Int := rd xs i + rd xs (i + 1) * 256 + rd xs (i + 2) * 65536 + rd xs (i + 3) * 16777216
theorem or4_eq (a b c d : Int) (ha : isByte a) (hb : isByte b) (hc : isByte c) (hd : isByte d) :
    bits .or .u32 (bits .or .u32 (bits .or .u32 a (b * 256)) (c * 65536)) (d * 16777216) = a + b * 256 + c * 65536 + d * 16777216 := by
  obtain ⟨a0, a1⟩ := ha
  obtain ⟨b0, b1⟩ := hb
  obtain ⟨c0, c1⟩ := hc
  obtain ⟨d0, d1⟩ := hd
  have wu : ∀ n : Int, 0 ≤ n → n < 2 ^ 32 → IntKind.u32.wrap n = n := fun n h0 h1 => by rw [IntKind.wrap_u32]; omega
  have com : ∀ x y : Int, bits .or .u32 x y = bits .or .u32 y x := fun x y => by simp [bits, BitVec.or_comm]
  rw [com a, bits_join .u32 32 (by decide) wu 8 (b * 256) a (by omega) (by omega) (by omega) a0 (by omega) (by omega)]
  rw [com _ (c * 65536), bits_join .u32 32 (by decide) wu 16 (c * 65536) _ (by omega) (by omega) (by omega) (by omega) (by omega) (by omega)]
  rw [com _ (d * 16777216), bits_join .u32 32 (by decide) wu 24 (d * 16777216) _ (by omega) (by omega) (by omega) (by omega) (by omega) (by omega)]
  omega

set_option maxRecDepth 100000 in
theorem word65 (s : ByteArray) (w : World) (h : s.size = 4) :
    Calls Try.prog 65 #[.string s] w fun e w' => e = .returned (.int .u32 (le4 (bytesOf s) 0)) ∧ Below w.heap.size w w' := by
  have h0 : (0:Int) < (s.size : Int) := by omega
  have h1 : (1:Int) < (s.size : Int) := by omega
  have h2 : (2:Int) < (s.size : Int) := by omega
  have h3 : (3:Int) < (s.size : Int) := by omega
  have i0 : 0 < s.size := by omega
  have i1 : 1 < s.size := by omega
  have i2 : 2 < s.size := by omega
  have i3 : 3 < s.size := by omega
  obtain ⟨r0, q0⟩ := byte_range s 0
  obtain ⟨r1, q1⟩ := byte_range s 1
  obtain ⟨r2, q2⟩ := byte_range s 2
  obtain ⟨r3, q3⟩ := byte_range s 3
  clear h
  go_enter Try.func65, Try.ntmps65
  go_wp2
  go_quiet (fail)
  go_wp2
  go_ret
  refine ⟨?_, ((Mem.start w).drewN nq).below⟩
  exact congrArg (fun x => Ending.returned (.int .u32 x)) (or4_eq _ _ _ _ ⟨r0, q0⟩ ⟨r1, q1⟩ ⟨r2, q2⟩ ⟨r3, q3⟩)

/-- The words at first. -/
def keyWords (key : List Int) (n : Nat) : List Int := (List.range n).map fun i => le4 key (4 * i)
def nonceWords (s : List Int) (n : Nat) : List Int := (List.range n).map fun i => le4 s (4 * i)
def sigma : List Int := [1634760805, 857760878, 2036477234, 1797285236]
def sig12 : List Int := sigma ++ List.replicate 12 0
def initWords (key nonce : List Int) (ctr : Int) : List Int := sigma ++ keyWords key 8 ++ [ctr] ++ nonceWords nonce 3

theorem keyWords_succ (key : List Int) (k : Nat) : keyWords key (k + 1) = keyWords key k ++ [le4 key (4 * k)] := by simp [keyWords, List.range_succ]
theorem nonceWords_succ (key : List Int) (k : Nat) : nonceWords key (k + 1) = nonceWords key k ++ [le4 key (4 * k)] := by simp [nonceWords, List.range_succ]
theorem keyWords_length (key : List Int) (k : Nat) : (keyWords key k).length = k := by simp [keyWords]
theorem nonceWords_length (key : List Int) (k : Nat) : (nonceWords key k).length = k := by simp [nonceWords]
theorem initWords_length (key s : List Int) (c : Int) : (initWords key s c).length = 16 := by simp [initWords, sigma, keyWords, nonceWords]
theorem le4_cut (xs : List Int) (i : Nat) (h : i + 4 ≤ xs.length) : le4 ((xs.drop i).take 4) 0 = le4 xs i := by
  have r : ∀ j, j < 4 → rd ((xs.drop i).take 4) j = rd xs (i + j) := fun j hj => by
    simp [rd, List.getD_eq_getElem?_getD, hj]
  unfold le4
  rw [r 0 (by omega), r 1 (by omega), r 2 (by omega), r 3 (by omega), Nat.add_zero]
theorem all_cut {p : Int → Prop} {xs : List Int} (h : ∀ x ∈ xs, p x) (i n : Nat) : ∀ x ∈ (xs.drop i).take n, p x := fun x hx => h x (List.mem_of_mem_drop (List.mem_of_mem_take hx))
/-- A word out of a row of bytes. -/
theorem word65k (key : List Int) (k : Nat) (w : World) (hk : k + 4 ≤ key.length) (hb : ∀ x ∈ key, isByte x) :
    Calls Try.prog 65 #[.string (strOfNums ((key.drop k).take 4))] w fun e w' => e = .returned (.int .u32 (le4 key k)) ∧ Below w.heap.size w w' := by
  have h := word65 (strOfNums ((key.drop k).take 4)) w (by rw [strOfNums_size]; simp; omega)
  rw [bytesOf_str _ (all_cut hb k 4), le4_cut key k hk] at h
  exact h
theorem extract_bytes (s : ByteArray) (i j : Nat) : bytesOf (s.extract i j) = ((bytesOf s).drop i).take (j - i) := by
  simp [bytesOf, ByteArray.data_extract, List.map_take, List.map_drop]
theorem word65s (s : ByteArray) (k : Nat) (w : World) (hk : k + 4 ≤ s.size) :
    Calls Try.prog 65 #[.string (s.extract k (k + 4))] w fun e w' => e = .returned (.int .u32 (le4 (bytesOf s) k)) ∧ Below w.heap.size w w' := by
  have h := word65 (s.extract k (k + 4)) w (by simp; omega)
  rw [extract_bytes, Nat.add_sub_cancel_left, le4_cut (bytesOf s) k (by rw [bytesOf_length]; exact hk)] at h
  exact h

set_option maxRecDepth 100000 in
set_option maxHeartbeats 1000000 in
theorem begin54 (key : List Int) (s : ByteArray) (ctr : Int) (w : World) (hkl : key.length = 32) (hkb : ∀ x ∈ key, isByte x) (hs : s.size = 12) :
    Calls Try.prog 54 #[.agg (nums .u8 key).toArray, .string s, .int .u32 ctr] w fun e w' => e = .returned (.agg (nums .u32 (initWords key (bytesOf s) ctr)).toArray) ∧ Below w.heap.size w w' := by
  have M0 := Mem.start w
  have hbuild := hid (show ∀ w : World, (Instr.build 89 #[(0, .int .u32 1634760805), (1, .int .u32 857760878), (2, .int .u32 2036477234), (3, .int .u32 1797285236)]).run Try.prog w = .ok (.agg (nums .u32 sig12).toArray) w from fun w => by kernel_rfl)
  go_enter Try.func54, Try.ntmps54
  go_wp2_with (first | (apply wpList_bld hbuild.out; (· rfl); (· rfl); (· rfl); (conv => arg 5; simp only [Act.put, List.setIfInBounds_toArray, List.set_cons_succ, List.set_cons_zero])) | (apply wpList_bxN 3; (· rfl); (· rfl); (· rfl); (· rfl); (· assumption); intro b3 w' M'; (conv => arg 5; simp only [Act.put, List.setIfInBounds_toArray, List.set_cons_succ, List.set_cons_zero])) | (apply wpList_alN z89 6; (· rfl); (· rfl); (· rfl); (· assumption); intro b6 w' M'; (conv => arg 5; simp only [Act.put, List.setIfInBounds_toArray, List.set_cons_succ, List.set_cons_zero])) | (apply wpList_alN z89 7; (· rfl); (· rfl); (· rfl); (· assumption); intro b7 w' M'; (conv => arg 5; simp only [Act.put, List.setIfInBounds_toArray, List.set_cons_succ, List.set_cons_zero])) | (apply wpList_strowN s89; (· rfl); (· rfl); (· rfl); (· rfl); (· assumption); (· (repeat (first | exact Swap.head | apply Swap.tail))); (· (first | with_reducible assumption | omega | (simp only [nums_length, List.length_set, List.length_replicate]; first | with_reducible assumption | omega) | rfl | (simp [*]; done) | (simp [*]; omega))); (· (first | with_reducible assumption | omega | (simp only [nums_length, List.length_set, List.length_replicate]; first | with_reducible assumption | omega) | rfl | (simp [*]; done) | (simp [*]; omega))); intro w' M'; (conv => arg 5; simp only [Act.put, List.setIfInBounds_toArray, List.set_cons_succ, List.set_cons_zero])) | (apply wpList_slA Try.underlying23 s5; (· rfl); (· rfl); (· rfl); (· rfl); (· rfl); (· omega); (· omega); (· omega); (· omega); (conv => arg 5; simp only [Act.put, List.setIfInBounds_toArray, List.set_cons_succ, List.set_cons_zero, IntWalk.toNatUp, Nat.add_sub_cancel_left, Nat.add_sub_cancel, Nat.zero_add, Nat.add_zero, Nat.sub_zero])) | (apply wpList_cvS Try.underlying47 Try.underlying5 Try.underlying9; (· rfl); (· rfl); (· rfl); (· assumption); (· (repeat (first | exact List.mem_cons_self | refine List.mem_cons_of_mem _ ?_))); (· (first | with_reducible assumption | omega | (simp only [nums_length, List.length_set, List.length_replicate]; first | with_reducible assumption | omega) | rfl | (simp [*]; done) | (simp [*]; omega))); (conv => arg 5; simp only [Act.put, List.setIfInBounds_toArray, List.set_cons_succ, List.set_cons_zero])) | (apply wpList_stN s24; (· rfl); (· rfl); (· rfl); (· rfl); (· assumption); (· (repeat (first | exact Swap.head | apply Swap.tail))); (· (first | with_reducible assumption | omega | (simp only [nums_length, List.length_set, List.length_replicate]; first | with_reducible assumption | omega) | rfl | (simp [*]; done) | (simp [*]; omega))); intro w' M'; (conv => arg 5; simp only [Act.put, List.setIfInBounds_toArray, List.set_cons_succ, List.set_cons_zero])) | (apply wpList_ldrowN Try.underlying89 s89; (· rfl); (· rfl); (· rfl); (· rfl); (· assumption); (· (repeat (first | exact List.mem_cons_self | refine List.mem_cons_of_mem _ ?_))); (· (first | with_reducible assumption | omega | (simp only [nums_length, List.length_set, List.length_replicate]; first | with_reducible assumption | omega) | rfl | (simp [*]; done) | (simp [*]; omega))); (conv => arg 5; simp only [Act.put, List.setIfInBounds_toArray, List.set_cons_succ, List.set_cons_zero])))
  go_loopw [11] (fun i wr => ∃ k : Nat, k ≤ 8 ∧ i = .int .i64 k ∧ Mem w [] wr [.blk b7 (rowO .u32 89 (sigma ++ keyWords key k ++ List.replicate (12 - k) 0)), .blk b6 (rowO .u32 89 (List.replicate 16 0)), .blk b3 (rowO .u8 23 key)]) (fun i _ => 8 - (intOf i).toNat)
  case atStart => exact ⟨0, by omega, rfl, M'⟩
  case round =>
    obtain ⟨k, hk8, rfl, Mr⟩ := hrel
    by_cases hk : k < 8
    · have hlen : (sigma ++ keyWords key k ++ List.replicate (12 - k) 0).length = 16 := by simp [sigma, keyWords]; omega
      have hrow := hid (fill_set (sigma ++ keyWords key k) (12 - k) (4 + k) (le4 key (4 * k)) (by simp [sigma, keyWords]; omega) (by omega))
      go_wp2_with (first | (go_at_call 65; refine (word65k key (4 * k) _ (by omega) hkb).mono ?_; rintro e w' ⟨rfl, hb⟩; have M' := Mr.call hb) | (apply wpList_bxN 3; (· rfl); (· rfl); (· rfl); (· rfl); (· assumption); intro b3 w' M'; (conv => arg 5; simp only [Act.put, List.setIfInBounds_toArray, List.set_cons_succ, List.set_cons_zero])) | (apply wpList_alN z89 6; (· rfl); (· rfl); (· rfl); (· assumption); intro b6 w' M'; (conv => arg 5; simp only [Act.put, List.setIfInBounds_toArray, List.set_cons_succ, List.set_cons_zero])) | (apply wpList_alN z89 7; (· rfl); (· rfl); (· rfl); (· assumption); intro b7 w' M'; (conv => arg 5; simp only [Act.put, List.setIfInBounds_toArray, List.set_cons_succ, List.set_cons_zero])) | (apply wpList_strowN s89; (· rfl); (· rfl); (· rfl); (· rfl); (· assumption); (· (repeat (first | exact Swap.head | apply Swap.tail))); (· (first | with_reducible assumption | omega | (simp only [nums_length, List.length_set, List.length_replicate]; first | with_reducible assumption | omega) | rfl | (simp [*]; done) | (simp [*]; omega))); (· (first | with_reducible assumption | omega | (simp only [nums_length, List.length_set, List.length_replicate]; first | with_reducible assumption | omega) | rfl | (simp [*]; done) | (simp [*]; omega))); intro w' M'; (conv => arg 5; simp only [Act.put, List.setIfInBounds_toArray, List.set_cons_succ, List.set_cons_zero])) | (apply wpList_slA Try.underlying23 s5; (· rfl); (· rfl); (· rfl); (· rfl); (· rfl); (· omega); (· omega); (· omega); (· omega); (conv => arg 5; simp only [Act.put, List.setIfInBounds_toArray, List.set_cons_succ, List.set_cons_zero, IntWalk.toNatUp, Nat.add_sub_cancel_left, Nat.add_sub_cancel, Nat.zero_add, Nat.add_zero, Nat.sub_zero])) | (apply wpList_cvS Try.underlying47 Try.underlying5 Try.underlying9; (· rfl); (· rfl); (· rfl); (· assumption); (· (repeat (first | exact List.mem_cons_self | refine List.mem_cons_of_mem _ ?_))); (· (first | with_reducible assumption | omega | (simp only [nums_length, List.length_set, List.length_replicate]; first | with_reducible assumption | omega) | rfl | (simp [*]; done) | (simp [*]; omega))); (conv => arg 5; simp only [Act.put, List.setIfInBounds_toArray, List.set_cons_succ, List.set_cons_zero])) | (apply wpList_stN s24; (· rfl); (· rfl); (· rfl); (· rfl); (· assumption); (· (repeat (first | exact Swap.head | apply Swap.tail))); (· (first | with_reducible assumption | omega | (simp only [nums_length, List.length_set, List.length_replicate]; first | with_reducible assumption | omega) | rfl | (simp [*]; done) | (simp [*]; omega))); intro w' M'; (conv => arg 5; simp only [Act.put, List.setIfInBounds_toArray, List.set_cons_succ, List.set_cons_zero])) | (apply wpList_ldrowN Try.underlying89 s89; (· rfl); (· rfl); (· rfl); (· rfl); (· assumption); (· (repeat (first | exact List.mem_cons_self | refine List.mem_cons_of_mem _ ?_))); (· (first | with_reducible assumption | omega | (simp only [nums_length, List.length_set, List.length_replicate]; first | with_reducible assumption | omega) | rfl | (simp [*]; done) | (simp [*]; omega))); (conv => arg 5; simp only [Act.put, List.setIfInBounds_toArray, List.set_cons_succ, List.set_cons_zero])))
      go_roundw
      case rel =>
        refine ⟨k + 1, by omega, by go_num, ?_⟩
        rw [hrow.out] at M'
        rw [keyWords_succ, ← List.append_assoc]
        exact M'
      case measure => simp [intOf]; omega
    · obtain rfl : k = 8 := by omega
      rw [show ((8 : Nat) : Int) = 8 from rfl]
      have hlen : (sigma ++ keyWords key 8 ++ List.replicate (12 - 8) 0).length = 16 := by simp [sigma, keyWords]
      have hrow := hid (fill_set (sigma ++ keyWords key 8) (12 - 8) 12 ctr (by simp [sigma, keyWords]) (by omega))
      go_wp2_with (first | (apply wpList_bxN 3; (· rfl); (· rfl); (· rfl); (· rfl); (· assumption); intro b3 w' M'; (conv => arg 5; simp only [Act.put, List.setIfInBounds_toArray, List.set_cons_succ, List.set_cons_zero])) | (apply wpList_alN z89 6; (· rfl); (· rfl); (· rfl); (· assumption); intro b6 w' M'; (conv => arg 5; simp only [Act.put, List.setIfInBounds_toArray, List.set_cons_succ, List.set_cons_zero])) | (apply wpList_alN z89 7; (· rfl); (· rfl); (· rfl); (· assumption); intro b7 w' M'; (conv => arg 5; simp only [Act.put, List.setIfInBounds_toArray, List.set_cons_succ, List.set_cons_zero])) | (apply wpList_strowN s89; (· rfl); (· rfl); (· rfl); (· rfl); (· assumption); (· (repeat (first | exact Swap.head | apply Swap.tail))); (· (first | with_reducible assumption | omega | (simp only [nums_length, List.length_set, List.length_replicate]; first | with_reducible assumption | omega) | rfl | (simp [*]; done) | (simp [*]; omega))); (· (first | with_reducible assumption | omega | (simp only [nums_length, List.length_set, List.length_replicate]; first | with_reducible assumption | omega) | rfl | (simp [*]; done) | (simp [*]; omega))); intro w' M'; (conv => arg 5; simp only [Act.put, List.setIfInBounds_toArray, List.set_cons_succ, List.set_cons_zero])) | (apply wpList_slA Try.underlying23 s5; (· rfl); (· rfl); (· rfl); (· rfl); (· rfl); (· omega); (· omega); (· omega); (· omega); (conv => arg 5; simp only [Act.put, List.setIfInBounds_toArray, List.set_cons_succ, List.set_cons_zero, IntWalk.toNatUp, Nat.add_sub_cancel_left, Nat.add_sub_cancel, Nat.zero_add, Nat.add_zero, Nat.sub_zero])) | (apply wpList_cvS Try.underlying47 Try.underlying5 Try.underlying9; (· rfl); (· rfl); (· rfl); (· assumption); (· (repeat (first | exact List.mem_cons_self | refine List.mem_cons_of_mem _ ?_))); (· (first | with_reducible assumption | omega | (simp only [nums_length, List.length_set, List.length_replicate]; first | with_reducible assumption | omega) | rfl | (simp [*]; done) | (simp [*]; omega))); (conv => arg 5; simp only [Act.put, List.setIfInBounds_toArray, List.set_cons_succ, List.set_cons_zero])) | (apply wpList_stN s24; (· rfl); (· rfl); (· rfl); (· rfl); (· assumption); (· (repeat (first | exact Swap.head | apply Swap.tail))); (· (first | with_reducible assumption | omega | (simp only [nums_length, List.length_set, List.length_replicate]; first | with_reducible assumption | omega) | rfl | (simp [*]; done) | (simp [*]; omega))); intro w' M'; (conv => arg 5; simp only [Act.put, List.setIfInBounds_toArray, List.set_cons_succ, List.set_cons_zero])) | (apply wpList_ldrowN Try.underlying89 s89; (· rfl); (· rfl); (· rfl); (· rfl); (· assumption); (· (repeat (first | exact List.mem_cons_self | refine List.mem_cons_of_mem _ ?_))); (· (first | with_reducible assumption | omega | (simp only [nums_length, List.length_set, List.length_replicate]; first | with_reducible assumption | omega) | rfl | (simp [*]; done) | (simp [*]; omega))); (conv => arg 5; simp only [Act.put, List.setIfInBounds_toArray, List.set_cons_succ, List.set_cons_zero])))
      rw [hrow.out] at M'
      clear hlen hrow
      go_loopw [28] (fun i wr => ∃ k : Nat, k ≤ 3 ∧ i = .int .i64 k ∧ Mem w [] wr [.blk b7 (rowO .u32 89 (sigma ++ keyWords key 8 ++ [ctr] ++ nonceWords (bytesOf s) k ++ List.replicate (3 - k) 0)), .blk b6 (rowO .u32 89 (List.replicate 16 0)), .blk b3 (rowO .u8 23 key)]) (fun i _ => 3 - (intOf i).toNat)
      case atStart => exact ⟨0, by omega, rfl, by simpa [nonceWords] using M'⟩
      case round =>
        obtain ⟨k, hk3, rfl, Mr'⟩ := hrel
        by_cases hk : k < 3
        · have hlen : (sigma ++ keyWords key 8 ++ [ctr] ++ nonceWords (bytesOf s) k ++ List.replicate (3 - k) 0).length = 16 := by simp [sigma, keyWords, nonceWords]; omega
          have hrow := hid (fill_set (sigma ++ keyWords key 8 ++ [ctr] ++ nonceWords (bytesOf s) k) (3 - k) (13 + k) (le4 (bytesOf s) (4 * k)) (by simp [sigma, keyWords, nonceWords]; omega) (by omega))
          go_wp2_with (first | (go_at_call 65; refine (word65s s (4 * k) _ (by omega)).mono ?_; rintro e w' ⟨rfl, hb⟩; have M' := Mr'.call hb) | (apply wpList_bxN 3; (· rfl); (· rfl); (· rfl); (· rfl); (· assumption); intro b3 w' M'; (conv => arg 5; simp only [Act.put, List.setIfInBounds_toArray, List.set_cons_succ, List.set_cons_zero])) | (apply wpList_alN z89 6; (· rfl); (· rfl); (· rfl); (· assumption); intro b6 w' M'; (conv => arg 5; simp only [Act.put, List.setIfInBounds_toArray, List.set_cons_succ, List.set_cons_zero])) | (apply wpList_alN z89 7; (· rfl); (· rfl); (· rfl); (· assumption); intro b7 w' M'; (conv => arg 5; simp only [Act.put, List.setIfInBounds_toArray, List.set_cons_succ, List.set_cons_zero])) | (apply wpList_strowN s89; (· rfl); (· rfl); (· rfl); (· rfl); (· assumption); (· (repeat (first | exact Swap.head | apply Swap.tail))); (· (first | with_reducible assumption | omega | (simp only [nums_length, List.length_set, List.length_replicate]; first | with_reducible assumption | omega) | rfl | (simp [*]; done) | (simp [*]; omega))); (· (first | with_reducible assumption | omega | (simp only [nums_length, List.length_set, List.length_replicate]; first | with_reducible assumption | omega) | rfl | (simp [*]; done) | (simp [*]; omega))); intro w' M'; (conv => arg 5; simp only [Act.put, List.setIfInBounds_toArray, List.set_cons_succ, List.set_cons_zero])) | (apply wpList_slA Try.underlying23 s5; (· rfl); (· rfl); (· rfl); (· rfl); (· rfl); (· omega); (· omega); (· omega); (· omega); (conv => arg 5; simp only [Act.put, List.setIfInBounds_toArray, List.set_cons_succ, List.set_cons_zero, IntWalk.toNatUp, Nat.add_sub_cancel_left, Nat.add_sub_cancel, Nat.zero_add, Nat.add_zero, Nat.sub_zero])) | (apply wpList_cvS Try.underlying47 Try.underlying5 Try.underlying9; (· rfl); (· rfl); (· rfl); (· assumption); (· (repeat (first | exact List.mem_cons_self | refine List.mem_cons_of_mem _ ?_))); (· (first | with_reducible assumption | omega | (simp only [nums_length, List.length_set, List.length_replicate]; first | with_reducible assumption | omega) | rfl | (simp [*]; done) | (simp [*]; omega))); (conv => arg 5; simp only [Act.put, List.setIfInBounds_toArray, List.set_cons_succ, List.set_cons_zero])) | (apply wpList_stN s24; (· rfl); (· rfl); (· rfl); (· rfl); (· assumption); (· (repeat (first | exact Swap.head | apply Swap.tail))); (· (first | with_reducible assumption | omega | (simp only [nums_length, List.length_set, List.length_replicate]; first | with_reducible assumption | omega) | rfl | (simp [*]; done) | (simp [*]; omega))); intro w' M'; (conv => arg 5; simp only [Act.put, List.setIfInBounds_toArray, List.set_cons_succ, List.set_cons_zero])) | (apply wpList_ldrowN Try.underlying89 s89; (· rfl); (· rfl); (· rfl); (· rfl); (· assumption); (· (repeat (first | exact List.mem_cons_self | refine List.mem_cons_of_mem _ ?_))); (· (first | with_reducible assumption | omega | (simp only [nums_length, List.length_set, List.length_replicate]; first | with_reducible assumption | omega) | rfl | (simp [*]; done) | (simp [*]; omega))); (conv => arg 5; simp only [Act.put, List.setIfInBounds_toArray, List.set_cons_succ, List.set_cons_zero])))
          go_roundw
          case rel =>
            refine ⟨k + 1, by omega, by go_num, ?_⟩
            rw [hrow.out] at M'
            rw [nonceWords_succ, ← List.append_assoc]
            exact M'
          case measure => simp [intOf]; omega
        · obtain rfl : k = 3 := by omega
          rw [show ((3 : Nat) : Int) = 3 from rfl]
          have Mr2 : Mem w [] wr [.blk b7 (rowO .u32 89 (initWords key (bytesOf s) ctr)), .blk b6 (rowO .u32 89 (List.replicate 16 0)), .blk b3 (rowO .u8 23 key)] := by simpa [initWords] using Mr'
          have hlen := initWords_length key (bytesOf s) ctr
          clear Mr'
          go_wp2_with (first | (apply wpList_bxN 3; (· rfl); (· rfl); (· rfl); (· rfl); (· assumption); intro b3 w' M'; (conv => arg 5; simp only [Act.put, List.setIfInBounds_toArray, List.set_cons_succ, List.set_cons_zero])) | (apply wpList_alN z89 6; (· rfl); (· rfl); (· rfl); (· assumption); intro b6 w' M'; (conv => arg 5; simp only [Act.put, List.setIfInBounds_toArray, List.set_cons_succ, List.set_cons_zero])) | (apply wpList_alN z89 7; (· rfl); (· rfl); (· rfl); (· assumption); intro b7 w' M'; (conv => arg 5; simp only [Act.put, List.setIfInBounds_toArray, List.set_cons_succ, List.set_cons_zero])) | (apply wpList_strowN s89; (· rfl); (· rfl); (· rfl); (· rfl); (· assumption); (· (repeat (first | exact Swap.head | apply Swap.tail))); (· (first | with_reducible assumption | omega | (simp only [nums_length, List.length_set, List.length_replicate]; first | with_reducible assumption | omega) | rfl | (simp [*]; done) | (simp [*]; omega))); (· (first | with_reducible assumption | omega | (simp only [nums_length, List.length_set, List.length_replicate]; first | with_reducible assumption | omega) | rfl | (simp [*]; done) | (simp [*]; omega))); intro w' M'; (conv => arg 5; simp only [Act.put, List.setIfInBounds_toArray, List.set_cons_succ, List.set_cons_zero])) | (apply wpList_slA Try.underlying23 s5; (· rfl); (· rfl); (· rfl); (· rfl); (· rfl); (· omega); (· omega); (· omega); (· omega); (conv => arg 5; simp only [Act.put, List.setIfInBounds_toArray, List.set_cons_succ, List.set_cons_zero, IntWalk.toNatUp, Nat.add_sub_cancel_left, Nat.add_sub_cancel, Nat.zero_add, Nat.add_zero, Nat.sub_zero])) | (apply wpList_cvS Try.underlying47 Try.underlying5 Try.underlying9; (· rfl); (· rfl); (· rfl); (· assumption); (· (repeat (first | exact List.mem_cons_self | refine List.mem_cons_of_mem _ ?_))); (· (first | with_reducible assumption | omega | (simp only [nums_length, List.length_set, List.length_replicate]; first | with_reducible assumption | omega) | rfl | (simp [*]; done) | (simp [*]; omega))); (conv => arg 5; simp only [Act.put, List.setIfInBounds_toArray, List.set_cons_succ, List.set_cons_zero])) | (apply wpList_stN s24; (· rfl); (· rfl); (· rfl); (· rfl); (· assumption); (· (repeat (first | exact Swap.head | apply Swap.tail))); (· (first | with_reducible assumption | omega | (simp only [nums_length, List.length_set, List.length_replicate]; first | with_reducible assumption | omega) | rfl | (simp [*]; done) | (simp [*]; omega))); intro w' M'; (conv => arg 5; simp only [Act.put, List.setIfInBounds_toArray, List.set_cons_succ, List.set_cons_zero])) | (apply wpList_ldrowN Try.underlying89 s89; (· rfl); (· rfl); (· rfl); (· rfl); (· assumption); (· (repeat (first | exact List.mem_cons_self | refine List.mem_cons_of_mem _ ?_))); (· (first | with_reducible assumption | omega | (simp only [nums_length, List.length_set, List.length_replicate]; first | with_reducible assumption | omega) | rfl | (simp [*]; done) | (simp [*]; omega))); (conv => arg 5; simp only [Act.put, List.setIfInBounds_toArray, List.set_cons_succ, List.set_cons_zero])))
          ((try simp only [Exit.inBlock, Exit.then]); apply ret_rowN Try.underlying89 s89; (· rfl); (· rfl); (· rfl); (· rfl); (· assumption); (· (repeat (first | exact List.mem_cons_self | refine List.mem_cons_of_mem _ ?_))); (· (first | with_reducible assumption | omega | (simp only [nums_length, List.length_set, List.length_replicate]; first | with_reducible assumption | omega) | rfl | (simp [*]; done) | (simp [*]; omega))); skip)
          exact ⟨rfl, M'.below⟩
end Go.Proofs.Ytcjfpcajjhccaaa
