/- Walks of the aead layer: fill, length. -/
import Derived.Test.YtcjfpcajjhccaaaO4
import Derived.Test.YtcjfpcajjhccaaaS8
set_option linter.unusedVariables false
set_option linter.unusedSimpArgs false
namespace Go.Proofs.Ytcjfpcajjhccaaa
open Go.RowKit
/-- How many zeros fill a block of 16. -/
def fillN (n : Nat) : Nat := (16 - n % 16) % 16
theorem and15_i64 (n : Nat) (h : n < 4611686018427387904) : bits .and .i64 (-(n : Int)) 15 = (fillN n : Nat) := by
  have e1 : (BitVec.ofInt 64 (-(n : Int))).toNat = (18446744073709551616 - n) % 18446744073709551616 := by
    rw [BitVec.toNat_ofInt]
    omega
  have e2 : (BitVec.ofInt 64 (15 : Int)).toNat = 2 ^ 4 - 1 := by decide
  show IntKind.i64.wrap ((BitVec.ofInt 64 (-(n : Int)) &&& BitVec.ofInt 64 (15 : Int)).toNat : Int) = _
  rw [BitVec.toNat_and, e1, e2, Nat.and_two_pow_sub_one_eq_mod]
  rw [IntWalk.i64_in _ (by omega), fillN]
  omega
set_option maxRecDepth 100000 in
theorem fill61 (n : Nat) (w : World) (hn : n ≤ 1000000000) :
    Calls Try.prog 61 #[.int .i64 n] w fun e w' => e = .returned (.string (strOfNums (List.replicate (fillN n) 0))) ∧ Below w.heap.size w w' := by
  have M0 := Mem.start w
  have hb := and15_i64 n (by omega)
  have hf : fillN n < 16 := Nat.mod_lt _ (by decide)
  obtain ⟨m, hm⟩ : ∃ m, m = fillN n := ⟨_, rfl⟩
  rw [← hm] at hb hf
  rw [← hm]
  clear hm
  go_enter Try.func61, Try.ntmps61
  go_wp2_with (first | (apply wpList_mkN 6 m Try.underlying47 i5; (· rfl); (· rfl); (· rfl); (· rfl); (· rfl); (· omega); (· omega); (· omega); (· omega); (· exact M0); intro b6 w' M'; (conv => arg 5; simp only [Act.put, List.setIfInBounds_toArray, List.set_cons_succ, List.set_cons_zero])) | (apply wpList_cvS Try.underlying47 Try.underlying5 Try.underlying9; (· rfl); (· rfl); (· rfl); (· assumption); (· (repeat (first | exact List.mem_cons_self | refine List.mem_cons_of_mem _ ?_))); (· (first | with_reducible assumption | omega | (simp only [nums_length, List.length_set, List.length_replicate]; first | with_reducible assumption | omega) | rfl | (simp [*]; done) | (simp [*]; omega))); (conv => arg 5; simp only [Act.put, List.setIfInBounds_toArray, List.set_cons_succ, List.set_cons_zero])))
  go_ret
  exact ⟨by rw [cut_all (by simp)]; rfl, M'.below⟩
set_option maxRecDepth 100000 in
theorem length62 (n : Nat) (w : World) (hn : n ≤ 1000000000) :
    Calls Try.prog 62 #[.int .i64 n] w fun e w' => e = .returned (.string (strOfNums (digs 256 8 n))) ∧ Below w.heap.size w w' := by
  have M0 := Mem.start w
  have HD := hid (digs_length 256 8 (n : Int))
  obtain ⟨ds, hds⟩ : ∃ x, x = digs 256 8 (n : Int) := ⟨_, rfl⟩
  rw [← hds] at HD
  rw [← hds]
  have HE := hid hds
  clear hds
  go_enter Try.func62, Try.ntmps62
  go_wp2_with (first | (apply wpList_alN z102 3; (· rfl); (· rfl); (· rfl); (· assumption); intro b3 w' M'; (conv => arg 5; simp only [Act.put, List.setIfInBounds_toArray, List.set_cons_succ, List.set_cons_zero])) | (apply wpList_stN s5; (· rfl); (· rfl); (· rfl); (· rfl); (· assumption); (· (repeat (first | exact Swap.head | apply Swap.tail))); (· (first | with_reducible assumption | omega | (simp only [nums_length, List.length_set, List.length_replicate]; first | with_reducible assumption | omega) | rfl | (simp [*]; done) | (simp [*]; omega))); intro w' M'; (conv => arg 5; simp only [Act.put, List.setIfInBounds_toArray, List.set_cons_succ, List.set_cons_zero])) | (apply wpList_slW Try.underlying102 s5 (by decide); (· rfl); (· rfl); (· rfl); (conv => arg 5; simp only [Act.put, List.setIfInBounds_toArray, List.set_cons_succ, List.set_cons_zero, IntWalk.toNatUp, Nat.add_sub_cancel_left, Nat.add_sub_cancel, Nat.zero_add, Nat.add_zero, Nat.sub_zero])) | (apply wpList_cvS Try.underlying47 Try.underlying5 Try.underlying9; (· rfl); (· rfl); (· rfl); (· assumption); (· (repeat (first | exact List.mem_cons_self | refine List.mem_cons_of_mem _ ?_))); (· (first | with_reducible assumption | omega | (simp only [nums_length, List.length_set, List.length_replicate]; first | with_reducible assumption | omega) | rfl | (simp [*]; done) | (simp [*]; omega))); (conv => arg 5; simp only [Act.put, List.setIfInBounds_toArray, List.set_cons_succ, List.set_cons_zero])))
  have M2 : Mem w [] w' [.blk b3 (rowO .u8 102 (ds.take 0 ++ List.replicate (8 - 0) 0))] := M'
  go_loopw [5] (fun v wr => ∃ i : Nat, v = .int .i64 i ∧ i ≤ 8 ∧ Mem w [] wr [.blk b3 (rowO .u8 102 (ds.take i ++ List.replicate (8 - i) 0))]) (fun v _ => 8 - (intOf v).toNat)
  case atStart => exact ⟨0, rfl, by omega, M2⟩
  case round =>
    obtain ⟨i, rfl, hi, Mi⟩ := hrel
    clear M2 M'
    have hl := HD.out
    by_cases hlt : i < 8
    · have hltI : (i : Int) < 8 := by omega
      have hs := digs_take_succ 256 (by decide) 8 n i hlt
      rw [← HE.out] at hs
      have hf : (ds.take i ++ List.replicate (8 - i) 0).set i (n / 256 ^ i % 256) = ds.take (i + 1) ++ List.replicate (8 - i - 1) 0 := by
        rw [fill_set _ _ _ _ (by simp; omega) (by omega), hs]
      have hlen : (ds.take i ++ List.replicate (8 - i) 0).length = 8 := by simp; omega
      have HF := hid hf
      obtain ⟨cu, hcu⟩ : ∃ x, x = ds.take i ++ List.replicate (8 - i) 0 := ⟨_, rfl⟩
      rw [← hcu] at Mi HF hlen
      clear hf hcu hs hl
      go_wp2_with (first | (apply wpList_alN z102 3; (· rfl); (· rfl); (· rfl); (· assumption); intro b3 w' M'; (conv => arg 5; simp only [Act.put, List.setIfInBounds_toArray, List.set_cons_succ, List.set_cons_zero])) | (apply wpList_stN s5; (· rfl); (· rfl); (· rfl); (· rfl); (· assumption); (· (repeat (first | exact Swap.head | apply Swap.tail))); (· (first | with_reducible assumption | omega | (simp only [nums_length, List.length_set, List.length_replicate]; first | with_reducible assumption | omega) | rfl | (simp [*]; done) | (simp [*]; omega))); intro w' M'; (conv => arg 5; simp only [Act.put, List.setIfInBounds_toArray, List.set_cons_succ, List.set_cons_zero])) | (apply wpList_slW Try.underlying102 s5 (by decide); (· rfl); (· rfl); (· rfl); (conv => arg 5; simp only [Act.put, List.setIfInBounds_toArray, List.set_cons_succ, List.set_cons_zero, IntWalk.toNatUp, Nat.add_sub_cancel_left, Nat.add_sub_cancel, Nat.zero_add, Nat.add_zero, Nat.sub_zero])) | (apply wpList_cvS Try.underlying47 Try.underlying5 Try.underlying9; (· rfl); (· rfl); (· rfl); (· assumption); (· (repeat (first | exact List.mem_cons_self | refine List.mem_cons_of_mem _ ?_))); (· (first | with_reducible assumption | omega | (simp only [nums_length, List.length_set, List.length_replicate]; first | with_reducible assumption | omega) | rfl | (simp [*]; done) | (simp [*]; omega))); (conv => arg 5; simp only [Act.put, List.setIfInBounds_toArray, List.set_cons_succ, List.set_cons_zero])))
      go_roundw
      case rel => exact ⟨i + 1, by go_num, by omega, by rw [show (2 : Int) ^ (8 * i) = 256 ^ i from by rw [Int.pow_mul]; rfl, HF.out] at M'; rw [show 8 - (i + 1) = 8 - i - 1 from by omega]; exact M'⟩
      case measure => simp [intOf]; omega
    · obtain rfl : i = 8 := by omega
      rw [show ((8 : Nat) : Int) = 8 from rfl]
      rw [List.take_of_length_le (by omega), Nat.sub_self, List.replicate_zero, List.append_nil] at Mi
      go_wp2_with (first | (apply wpList_alN z102 3; (· rfl); (· rfl); (· rfl); (· assumption); intro b3 w' M'; (conv => arg 5; simp only [Act.put, List.setIfInBounds_toArray, List.set_cons_succ, List.set_cons_zero])) | (apply wpList_stN s5; (· rfl); (· rfl); (· rfl); (· rfl); (· assumption); (· (repeat (first | exact Swap.head | apply Swap.tail))); (· (first | with_reducible assumption | omega | (simp only [nums_length, List.length_set, List.length_replicate]; first | with_reducible assumption | omega) | rfl | (simp [*]; done) | (simp [*]; omega))); intro w' M'; (conv => arg 5; simp only [Act.put, List.setIfInBounds_toArray, List.set_cons_succ, List.set_cons_zero])) | (apply wpList_slW Try.underlying102 s5 (by decide); (· rfl); (· rfl); (· rfl); (conv => arg 5; simp only [Act.put, List.setIfInBounds_toArray, List.set_cons_succ, List.set_cons_zero, IntWalk.toNatUp, Nat.add_sub_cancel_left, Nat.add_sub_cancel, Nat.zero_add, Nat.add_zero, Nat.sub_zero])) | (apply wpList_cvS Try.underlying47 Try.underlying5 Try.underlying9; (· rfl); (· rfl); (· rfl); (· assumption); (· (repeat (first | exact List.mem_cons_self | refine List.mem_cons_of_mem _ ?_))); (· (first | with_reducible assumption | omega | (simp only [nums_length, List.length_set, List.length_replicate]; first | with_reducible assumption | omega) | rfl | (simp [*]; done) | (simp [*]; omega))); (conv => arg 5; simp only [Act.put, List.setIfInBounds_toArray, List.set_cons_succ, List.set_cons_zero])))
      go_ret
      exact ⟨by rw [cut_all hl]; rfl, Mi.below⟩
set_option maxRecDepth 100000 in
theorem length64 (n : Nat) (w : World) (hn : n ≤ 1000000000) :
    Calls Try.prog 64 #[.int .i64 n] w fun e w' => e = .returned (.string (strOfNums (digs 256 8 n))) ∧ Below w.heap.size w w' := by
  have M0 := Mem.start w
  obtain ⟨ds, hds⟩ : ∃ x, x = digs 256 8 (n : Int) := ⟨_, rfl⟩
  have HD := hid (show ds.length = 8 by rw [hds]; exact digs_length 256 8 (n : Int))
  rw [← hds]
  have HE := hid hds
  clear hds
  go_enter Try.func64, Try.ntmps64
  go_wp2_with fail
  have M2 := M0.nil 5 1
  clear M0
  go_loopw [0, 3, 4] (fun q v c wr => ∃ (i m : Nat) (Z : Option Addr) (cap : Nat), c = .int .i64 i ∧ q = .int .i64 m ∧ v = .slice Z i cap ∧ i ≤ 8 ∧ m ≤ 1000000000 ∧ Hid ((m : Int) = n / 256 ^ i) ∧ Mem w [] wr [.vec Z i cap 5 1 (nums .u8 (ds.take i))]) (fun _ _ c _ => 8 - (intOf c).toNat)
  case atStart => exact ⟨0, n, none, 0, rfl, rfl, rfl, by omega, hn, hid (by simp), M2⟩
  case round =>
    obtain ⟨i, m, Z, cap, rfl, rfl, rfl, hi, hm, HM, Mi⟩ := hrel
    clear M2
    by_cases hlt : i < 8
    · have hltI : (i : Int) < 8 := by omega
      have hs := digs_take_succ 256 (by decide) 8 n i hlt
      rw [← HE.out, ← HM.out] at hs
      have hnext : Hid (((m / 256 : Nat) : Int) = n / 256 ^ (i + 1)) := hid (by rw [Int.pow_succ, ← Int.ediv_ediv_of_nonneg (Int.le_of_lt (Int.pow_pos (by decide))), ← HM.out]; omega)
      have HS := hid hs
      obtain ⟨m2, hm2⟩ : ∃ x, x = m / 256 := ⟨_, rfl⟩
      have d1 : (m : Int).tdiv 256 = (m2 : Int) := by rw [Int.tdiv_eq_ediv_of_nonneg (by omega)]; omega
      have d2 : (m : Int) / 256 = (m2 : Int) := by omega
      have d3 : (m : Int).tmod 256 = (m : Int) % 256 := by rw [Int.tmod_eq_emod_of_nonneg (by omega)]
      have hm3 : m2 ≤ 1000000000 := by omega
      rw [← hm2] at hnext
      clear hs hm2
      go_wp2_with (first | (apply wpList_app1 Try.underlying47 i5; (· rfl); (· rfl); (· rfl); (· rfl); (· assumption); (· intro A' cap'; (repeat (first | exact Swap.head | apply Swap.tail))); (· omega); (· omega); intro A' cap' w' M'; (conv => arg 5; simp only [Act.put, List.setIfInBounds_toArray, List.set_cons_succ, List.set_cons_zero])) | (apply wpList_app4 Try.underlying47 i5; (· rfl); (· rfl); (· rfl); (· rfl); (· assumption); (· intro A' cap'; (repeat (first | exact Swap.head | apply Swap.tail))); (· omega); (· omega); intro A' cap' w' M'; (conv => arg 5; simp only [Act.put, List.setIfInBounds_toArray, List.set_cons_succ, List.set_cons_zero])) | (apply wpList_cvV Try.underlying47 Try.underlying5 Try.underlying9; (· rfl); (· rfl); (· rfl); (· assumption); (· (repeat (first | exact List.mem_cons_self | refine List.mem_cons_of_mem _ ?_))); (conv => arg 5; simp only [Act.put, List.setIfInBounds_toArray, List.set_cons_succ, List.set_cons_zero])) | (apply wpList_cvS Try.underlying47 Try.underlying5 Try.underlying9; (· rfl); (· rfl); (· rfl); (· assumption); (· (repeat (first | exact List.mem_cons_self | refine List.mem_cons_of_mem _ ?_))); (· (first | with_reducible assumption | omega | (simp only [nums_length, List.length_set, List.length_replicate]; first | with_reducible assumption | omega) | rfl | (simp [*]; done) | (simp [*]; omega))); (conv => arg 5; simp only [Act.put, List.setIfInBounds_toArray, List.set_cons_succ, List.set_cons_zero])))
      go_roundw
      case rel => exact ⟨i + 1, m2, A', cap', by go_num, rfl, rfl, by omega, hm3, hnext, by rw [HS.out]; exact M'⟩
      case measure => simp [intOf]; omega
    · obtain rfl : i = 8 := by omega
      rw [show ((8 : Nat) : Int) = 8 from rfl]
      have hl := HD.out
      rw [List.take_of_length_le (by omega)] at Mi
      clear hl
      go_wp2_with (first | (apply wpList_app1 Try.underlying47 i5; (· rfl); (· rfl); (· rfl); (· rfl); (· assumption); (· intro A' cap'; (repeat (first | exact Swap.head | apply Swap.tail))); (· omega); (· omega); intro A' cap' w' M'; (conv => arg 5; simp only [Act.put, List.setIfInBounds_toArray, List.set_cons_succ, List.set_cons_zero])) | (apply wpList_app4 Try.underlying47 i5; (· rfl); (· rfl); (· rfl); (· rfl); (· assumption); (· intro A' cap'; (repeat (first | exact Swap.head | apply Swap.tail))); (· omega); (· omega); intro A' cap' w' M'; (conv => arg 5; simp only [Act.put, List.setIfInBounds_toArray, List.set_cons_succ, List.set_cons_zero])) | (apply wpList_cvV Try.underlying47 Try.underlying5 Try.underlying9; (· rfl); (· rfl); (· rfl); (· assumption); (· (repeat (first | exact List.mem_cons_self | refine List.mem_cons_of_mem _ ?_))); (conv => arg 5; simp only [Act.put, List.setIfInBounds_toArray, List.set_cons_succ, List.set_cons_zero])) | (apply wpList_cvS Try.underlying47 Try.underlying5 Try.underlying9; (· rfl); (· rfl); (· rfl); (· assumption); (· (repeat (first | exact List.mem_cons_self | refine List.mem_cons_of_mem _ ?_))); (· (first | with_reducible assumption | omega | (simp only [nums_length, List.length_set, List.length_replicate]; first | with_reducible assumption | omega) | rfl | (simp [*]; done) | (simp [*]; omega))); (conv => arg 5; simp only [Act.put, List.setIfInBounds_toArray, List.set_cons_succ, List.set_cons_zero])))
      go_ret
      exact ⟨rfl, Mi.below⟩
end Go.Proofs.Ytcjfpcajjhccaaa
namespace Go.Proofs.Ytcjfpcajjhccaaa
open Go.RowKit
def strLen : Value → Nat
  | .string s => s.size
  | _ => 0
def fillK (s : ByteArray) (k : Nat) : ByteArray := strOfNums (bytesOf s ++ List.replicate k 0)
theorem fillK_size (s : ByteArray) (k : Nat) : (fillK s k).size = s.size + k := by rw [fillK, strOfNums_size, List.length_append, bytesOf_length, List.length_replicate]
theorem fillK_succ (s : ByteArray) (k : Nat) : fillK s k ++ ⟨#[0]⟩ = fillK s (k + 1) := by
  rw [fillK, fillK, show List.replicate (k + 1) (0 : Int) = List.replicate k 0 ++ [0] from by rw [List.replicate_succ'], ← List.append_assoc, str_append _ [0]]
  rfl
set_option maxRecDepth 100000 in
theorem filled63 (s : ByteArray) (w : World) (hn : s.size ≤ 1000000000) :
    Calls Try.prog 63 #[.string s] w fun e w' => e = .returned (.string (fillK s (fillN s.size))) ∧ w' = w := by
  have h0 : s = fillK s 0 := by rw [fillK, List.replicate_zero, List.append_nil, str_bytesOf]
  obtain ⟨m, hm⟩ : ∃ m, m = fillN s.size := ⟨_, rfl⟩
  have hm1 : m < 16 := by rw [hm]; exact Nat.mod_lt _ (by decide)
  have hm2 : (s.size + m) % 16 = 0 := by rw [hm, fillN]; omega
  have hm3 : ∀ k, k < m → (s.size + k) % 16 ≠ 0 := fun k hk => by rw [hm, fillN] at hk; omega
  rw [← hm]
  clear hm
  go_enter Try.func63, Try.ntmps63
  go_wp2_with fail
  go_loop [0] (fun v => ∃ k : Nat, v = .string (fillK s k) ∧ k ≤ m) (fun v => s.size + m - strLen v)
  case atStart => exact ⟨0, by rw [← h0], by omega⟩
  case round =>
    obtain ⟨k, rfl, hk⟩ := hrel
    have hz := fillK_size s k
    have hsu := fillK_succ s k
    have hz2 := fillK_size s (k + 1)
    obtain ⟨x, hx⟩ : ∃ x, x = fillK s k := ⟨_, rfl⟩
    obtain ⟨x2, hx2⟩ : ∃ x, x = fillK s (k + 1) := ⟨_, rfl⟩
    rw [← hx] at hz hsu ⊢
    rw [← hx2] at hsu hz2
    by_cases hlt : k < m
    · have h1 : ((x.size : Int) % 16 != 0) = true := by rw [bne_iff_ne]; have := hm3 k hlt; omega
      have hxs : x.size ≤ 2000000000 := by omega
      have HZ := hid hz
      have HS := hid hsu
      have HX := hid hx2
      have HZ2 := hid hz2
      have H2 := hid hm2
      have H3 := hid hm3
      clear hz hsu hx hx2 hz2 h0 hm2 hm3
      go_wp2_with fail
      rw [HS.out]
      go_round
      case rel => exact ⟨k + 1, by rw [← HX.out], by omega⟩
      case measure => simp only [strLen]; rw [HZ.out, HZ2.out]; omega
    · obtain rfl : k = m := by omega
      have h1 : ((x.size : Int) % 16 != 0) = false := by rw [bne_eq_false_iff_eq]; omega
      have HX := hid hx
      clear hz hsu hx hx2 hz2 h0 hm2 hm3
      go_wp2_with fail
      go_ret
      exact ⟨by rw [HX.out]; rfl, rfl⟩
theorem u8_bits (n m : Nat) (hn : n < 256) (hm : m < 256) : (BitVec.ofInt 8 (n : Int)).toNat = n ∧ (BitVec.ofInt 8 (m : Int)).toNat = m := by
  constructor <;> (rw [BitVec.ofInt_natCast, BitVec.toNat_ofNat]; exact Nat.mod_eq_of_lt (by omega))
theorem or_u8_zero (x y : Int) (hx : 0 ≤ x ∧ x < 256) (hy : 0 ≤ y ∧ y < 256) : (0 ≤ bits .or .u8 x y ∧ bits .or .u8 x y < 256) ∧ (bits .or .u8 x y = 0 ↔ x = 0 ∧ y = 0) := by
  obtain ⟨n, rfl⟩ := Int.eq_ofNat_of_zero_le hx.1
  obtain ⟨m, rfl⟩ := Int.eq_ofNat_of_zero_le hy.1
  obtain ⟨e1, e2⟩ := u8_bits n m (by omega) (by omega)
  have hlt : n ||| m < 256 := Nat.or_lt_two_pow (n := 8) (by omega) (by omega)
  have e : bits .or .u8 (n : Int) (m : Int) = ((n ||| m : Nat) : Int) := by
    show IntKind.u8.wrap ((BitVec.ofInt 8 (n : Int) ||| BitVec.ofInt 8 (m : Int)).toNat : Int) = _
    rw [BitVec.toNat_or, e1, e2, IntKind.wrap_u8]
    omega
  rw [e]
  refine ⟨by omega, ?_⟩
  have := @Nat.or_eq_zero_iff n m
  omega
theorem xor_u8_zero (x y : Int) (hx : 0 ≤ x ∧ x < 256) (hy : 0 ≤ y ∧ y < 256) : (0 ≤ bits .xor .u8 x y ∧ bits .xor .u8 x y < 256) ∧ (bits .xor .u8 x y = 0 ↔ x = y) := by
  obtain ⟨n, rfl⟩ := Int.eq_ofNat_of_zero_le hx.1
  obtain ⟨m, rfl⟩ := Int.eq_ofNat_of_zero_le hy.1
  obtain ⟨e1, e2⟩ := u8_bits n m (by omega) (by omega)
  have hlt : n ^^^ m < 256 := Nat.xor_lt_two_pow (n := 8) (by omega) (by omega)
  have e : bits .xor .u8 (n : Int) (m : Int) = ((n ^^^ m : Nat) : Int) := by
    show IntKind.u8.wrap ((BitVec.ofInt 8 (n : Int) ^^^ BitVec.ofInt 8 (m : Int)).toNat : Int) = _
    rw [BitVec.toNat_xor, e1, e2, IntKind.wrap_u8]
    omega
  rw [e]
  refine ⟨by omega, ?_⟩
  have h0 : n ^^^ m = 0 ↔ n = m := by
    constructor
    · intro h
      have := congrArg (· ^^^ m) h
      simpa [Nat.xor_assoc] using this
    · rintro rfl
      simp
  omega
theorem bytes_inj {s u : ByteArray} (h : bytesOf s = bytesOf u) : s = u := by rw [← str_bytesOf s, ← str_bytesOf u, h]
set_option maxRecDepth 100000 in
theorem Equal53 (s u : ByteArray) (w : World) (hs : s.size ≤ 1000000000) (hu : u.size ≤ 1000000000) :
    Calls Try.prog 53 #[.string s, .string u] w fun e w' => e = .returned (.bool (decide (s = u))) ∧ Below w.heap.size w w' := by
  have M0 := Mem.start w
  obtain ⟨b, hb⟩ : ∃ b, b = decide (s = u) := ⟨_, rfl⟩
  rw [← hb]
  have HB := hid hb
  clear hb
  by_cases hz : s.size = u.size
  · have h1 : ((s.size : Int) != (u.size : Int)) = false := by rw [bne_eq_false_iff_eq]; omega
    have HZ := hid hz
    have hl1 := bytesOf_length s
    have hl2 := bytesOf_length u
    have HL1 := hid hl1
    have HL2 := hid hl2
    clear hz hl1 hl2
    go_enter Try.func53, Try.ntmps53
    go_wp2_with fail
    go_loopw [5, 14] (fun d v wr => ∃ (i : Nat) (x : Int), v = .int .i64 i ∧ d = .int .u8 x ∧ i ≤ s.size ∧ 0 ≤ x ∧ x < 256 ∧ Hid (x = 0 ↔ (bytesOf s).take i = (bytesOf u).take i) ∧ Mem w [] wr []) (fun _ v _ => s.size - (intOf v).toNat)
    case atStart => exact ⟨0, 0, rfl, rfl, by omega, by omega, by omega, hid (by simp), M0⟩
    case round =>
      obtain ⟨i, x, rfl, rfl, hi, x0, x1, HX, Mi⟩ := hrel
      clear M0
      by_cases hlt : i < s.size
      · have hltI : (i : Int) < (s.size : Int) := by omega
        have hltu : i < u.size := by have := HZ.out; omega
        have hltuI : (i : Int) < (u.size : Int) := by omega
        have ba := digOk_rd (B := 256) (by decide) (fun z hz => bytesOf_all s z hz) i
        have bb := digOk_rd (B := 256) (by decide) (fun z hz => bytesOf_all u z hz) i
        have s1 := take_rd_succ (bytesOf s) i (by rw [HL1.out]; exact hlt)
        have s2 := take_rd_succ (bytesOf u) i (by rw [HL2.out]; exact hltu)
        obtain ⟨y1, y2⟩ := xor_u8_zero _ _ ba bb
        obtain ⟨z1, z2⟩ := or_u8_zero x _ ⟨x0, x1⟩ y1
        have hnext : Hid (bits .or .u8 x (bits .xor .u8 (rd (bytesOf s) i) (rd (bytesOf u) i)) = 0 ↔ (bytesOf s).take (i + 1) = (bytesOf u).take (i + 1)) := hid (by
          rw [z2, y2, HX.out, s1, s2]
          constructor
          · rintro ⟨h1, h2⟩; rw [h1, h2]
          · intro h
            have := List.append_inj' h rfl
            exact ⟨this.1, by simpa using this.2⟩)
        have HZ1 := hid z1
        clear s1 s2 y1 y2 z1 z2 ba bb
        go_wp2_with fail
        refine wp_region_stillM (by kernel_rfl) (by kernel_rfl) Mi (fun w1 M1 => ?_)
        repeat still_step
        refine wpStill_nil ?_
        obtain ⟨d, hd⟩ : ∃ d, d = bits .or .u8 x (bits .xor .u8 (rd (bytesOf s) i) (rd (bytesOf u) i)) := ⟨_, rfl⟩
        rw [← hd] at hnext HZ1 ⊢
        clear hd
        go_wp2_with fail
        go_roundw
        case rel => exact ⟨i + 1, d, by go_num, rfl, by omega, HZ1.out.1, HZ1.out.2, hnext, M1⟩
        case measure => simp [intOf]; omega
      · obtain rfl : i = s.size := by omega
        have hfin : (x == 0) = b := by
          rw [HB.out]
          have h := HX.out
          rw [List.take_of_length_le (by rw [HL1.out]; omega), List.take_of_length_le (by rw [HL2.out, ← HZ.out]; omega)] at h
          by_cases hsu : s = u
          · rw [decide_eq_true hsu, beq_iff_eq, h, hsu]
          · rw [decide_eq_false hsu, beq_eq_false_iff_ne]
            exact fun hx => hsu (bytes_inj (h.1 hx))
        go_wp2_with fail
        go_ret
        exact ⟨rfl, Mi.below⟩
  · have h1 : ((s.size : Int) != (u.size : Int)) = true := by rw [bne_iff_ne]; omega
    obtain rfl : b = false := by rw [HB.out]; exact decide_eq_false (fun h => hz (by rw [h]))
    clear hz HB
    go_enter Try.func53, Try.ntmps53
    go_wp2_with fail
    go_ret
    exact ⟨rfl, M0.below⟩
end Go.Proofs.Ytcjfpcajjhccaaa
namespace Go.Proofs.Ytcjfpcajjhccaaa
open Go.RowKit
/-- What the tag of a sealed text is taken of. -/
def macL (a t : List Int) : List Int := a ++ List.replicate (fillN a.length) 0 ++ (t ++ List.replicate (fillN t.length) 0) ++ digs 256 8 a.length ++ digs 256 8 t.length
theorem bytes_app (x y : ByteArray) : bytesOf (x ++ y) = bytesOf x ++ bytesOf y := by simp [bytesOf, ByteArray.data_append]
theorem fillK_bytes (s : ByteArray) (k : Nat) : bytesOf (fillK s k) = bytesOf s ++ List.replicate k 0 := by
  rw [fillK]
  refine bytesOf_str _ (fun x hx => ?_)
  rcases List.mem_append.1 hx with hx | hx
  · exact bytesOf_all s x hx
  · have := List.eq_of_mem_replicate hx
    subst this
    exact ⟨by omega, by omega⟩
/-- The key of a tag. -/
def tagKey (key nl : List Int) : List Int := (blockB key nl 0).take 32
theorem tagKey_length (key nl : List Int) : (tagKey key nl).length = 32 := by rw [tagKey, List.length_take, blockB_length]; rfl
theorem tagKey_ok (key nl : List Int) : digOk 256 (tagKey key nl) := fun x hx => blockB_bytes key nl 0 x (List.mem_of_mem_take hx)
set_option maxRecDepth 100000 in
set_option maxHeartbeats 1000000 in
theorem Tag52 (key : List Int) (s text adds : ByteArray) (w : World) (hk : key.length = 32) (hkb : digOk 256 key) (hs : s.size = 12) (ht : text.size ≤ 2000) (ha : adds.size ≤ 7000) :
    Calls Try.prog 52 #[.agg (nums .u8 key).toArray, .string s, .string text, .string adds] w fun e w' => e = .returned (.string (strOfNums (tagK (tagKey key (bytesOf s)) (macL (bytesOf adds) (bytesOf text))))) ∧ Below w.heap.size w w' := by
  have M0 := Mem.start w
  have H20 := hid (fun w' => Block20 key s 0 w' hk hkb hs)
  obtain ⟨k2, hk2⟩ : ∃ x, x = tagKey key (bytesOf s) := ⟨_, rfl⟩
  have lk2 : k2.length = 32 := by rw [hk2]; exact tagKey_length _ _
  have ok2 : digOk 256 k2 := by rw [hk2]; exact tagKey_ok _ _
  obtain ⟨bk, hbk⟩ : ∃ x, x = strOfNums (blockB key (bytesOf s) 0) := ⟨_, rfl⟩
  have zbk : bk.size = 64 := by rw [hbk, strOfNums_size, blockB_length]
  have bbk : k2 = (bytesOf bk).take 32 := by rw [hk2, tagKey, hbk, bytesOf_str _ (blockB_bytes _ _ _)]
  have h63a := hid (fun w' => filled63 adds w' (by omega))
  have h63t := hid (fun w' => filled63 text w' (by omega))
  have h64a := hid (fun w' => length64 adds.size w' (by omega))
  have h64t := hid (fun w' => length64 text.size w' (by omega))
  obtain ⟨fa, hfa⟩ : ∃ x, x = fillK adds (fillN adds.size) := ⟨_, rfl⟩
  obtain ⟨ft, hft⟩ : ∃ x, x = fillK text (fillN text.size) := ⟨_, rfl⟩
  obtain ⟨la, hla⟩ : ∃ x, x = strOfNums (digs 256 8 adds.size) := ⟨_, rfl⟩
  obtain ⟨lt, hlt⟩ : ∃ x, x = strOfNums (digs 256 8 text.size) := ⟨_, rfl⟩
  have hq : bytesOf (fa ++ ft ++ la ++ lt) = macL (bytesOf adds) (bytesOf text) := by
    rw [bytes_app, bytes_app, bytes_app, hfa, hft, fillK_bytes, fillK_bytes, hla, hlt, bytesOf_str _ (digs_ok (by decide) _ _), bytesOf_str _ (digs_ok (by decide) _ _), macL, bytesOf_length, bytesOf_length]
  have f1 : fillN adds.size < 16 := Nat.mod_lt _ (by decide)
  have f2 : fillN text.size < 16 := Nat.mod_lt _ (by decide)
  have z1 : fa.size ≤ 7016 := by rw [hfa, fillK_size]; omega
  have z2 : ft.size ≤ 2016 := by rw [hft, fillK_size]; omega
  have z3 : la.size ≤ 8 := by rw [hla, strOfNums_size, digs_length]; omega
  have z4 : lt.size ≤ 8 := by rw [hlt, strOfNums_size, digs_length]; omega
  have zq : (fa ++ ft ++ la ++ lt).size ≤ 17000 := by simp only [ByteArray.size_append]; omega
  have h28 := hid (fun w' => Tag28k k2 (fa ++ ft ++ la ++ lt) w' lk2 ok2 zq)
  rw [hq] at h28
  rw [← hbk] at H20
  rw [← hfa] at h63a
  rw [← hft] at h63t
  rw [← hla] at h64a
  rw [← hlt] at h64t
  rw [← hk2]
  obtain ⟨tg, htg⟩ : ∃ x, x = strOfNums (tagK k2 (macL (bytesOf adds) (bytesOf text))) := ⟨_, rfl⟩
  rw [← htg] at h28 ⊢
  have HB := hid bbk
  have HZ := hid zbk
  clear hk2 ok2 hbk zbk bbk hfa hft hla hlt hq f1 f2 zq htg hkb hs
  go_enter Try.func52, Try.ntmps52
  go_wp2_with (first | (go_at_call 20; refine (H20.out _).mono ?_; rintro e w' ⟨rfl, hb⟩; replace M' := M'.call hb) | (apply wpList_bxN 4; (· rfl); (· rfl); (· rfl); (· rfl); (· assumption); intro b4 w' M'; (conv => arg 5; simp only [Act.put, List.setIfInBounds_toArray, List.set_cons_succ, List.set_cons_zero])) | (apply wpList_ldrowN Try.underlying23 s23; (· rfl); (· rfl); (· rfl); (· rfl); (· assumption); (· (repeat (first | exact List.mem_cons_self | refine List.mem_cons_of_mem _ ?_))); (· (first | with_reducible assumption | omega | (simp only [nums_length, List.length_set, List.length_replicate]; first | with_reducible assumption | omega) | rfl | (simp [*]; done) | (simp [*]; omega))); (conv => arg 5; simp only [Act.put, List.setIfInBounds_toArray, List.set_cons_succ, List.set_cons_zero])) | (apply wpList_alN z23 10; (· rfl); (· rfl); (· rfl); (· assumption); intro b10 w' M'; (conv => arg 5; simp only [Act.put, List.setIfInBounds_toArray, List.set_cons_succ, List.set_cons_zero])) | (apply wpList_stN s5; (· rfl); (· rfl); (· rfl); (· rfl); (· assumption); (· (repeat (first | exact Swap.head | apply Swap.tail))); (· (first | with_reducible assumption | omega | (simp only [nums_length, List.length_set, List.length_replicate]; first | with_reducible assumption | omega) | rfl | (simp [*]; done) | (simp [*]; omega))); intro w' M'; (conv => arg 5; simp only [Act.put, List.setIfInBounds_toArray, List.set_cons_succ, List.set_cons_zero])))
  have M2 : Mem w [] w' [.blk b10 (rowO .u8 23 ((bytesOf bk).take 0 ++ List.replicate (32 - 0) 0)), .blk b4 (rowO .u8 23 key)] := M'
  go_loopw [11] (fun v wr => ∃ i : Nat, v = .int .i64 i ∧ i ≤ 32 ∧ Mem w [] wr [.blk b10 (rowO .u8 23 ((bytesOf bk).take i ++ List.replicate (32 - i) 0)), .blk b4 (rowO .u8 23 key)]) (fun v _ => 32 - (intOf v).toNat)
  case atStart => exact ⟨0, rfl, by omega, M2⟩
  case round =>
    obtain ⟨i, rfl, hi, Mi⟩ := hrel
    clear M2 M'
    have hl := bytesOf_length bk
    have zb := HZ.out
    by_cases hlt : i < 32
    · have hltI : (i : Int) < 32 := by omega
      have hib : i < bk.size := by omega
      have hibI : (i : Int) < (bk.size : Int) := by omega
      have hs := take_rd_succ (bytesOf bk) i (by omega)
      have hf : ((bytesOf bk).take i ++ List.replicate (32 - i) 0).set i (rd (bytesOf bk) i) = (bytesOf bk).take (i + 1) ++ List.replicate (32 - i - 1) 0 := by
        rw [fill_set _ _ _ _ (by simp; omega) (by omega), hs]
      have hlen : ((bytesOf bk).take i ++ List.replicate (32 - i) 0).length = 32 := by simp; omega
      have HF := hid hf
      obtain ⟨cu, hcu⟩ : ∃ x, x = (bytesOf bk).take i ++ List.replicate (32 - i) 0 := ⟨_, rfl⟩
      rw [← hcu] at Mi HF hlen
      clear hf hcu hs hl zb
      go_wp2_with (first | (apply wpList_bxN 4; (· rfl); (· rfl); (· rfl); (· rfl); (· assumption); intro b4 w' M'; (conv => arg 5; simp only [Act.put, List.setIfInBounds_toArray, List.set_cons_succ, List.set_cons_zero])) | (apply wpList_ldrowN Try.underlying23 s23; (· rfl); (· rfl); (· rfl); (· rfl); (· assumption); (· (repeat (first | exact List.mem_cons_self | refine List.mem_cons_of_mem _ ?_))); (· (first | with_reducible assumption | omega | (simp only [nums_length, List.length_set, List.length_replicate]; first | with_reducible assumption | omega) | rfl | (simp [*]; done) | (simp [*]; omega))); (conv => arg 5; simp only [Act.put, List.setIfInBounds_toArray, List.set_cons_succ, List.set_cons_zero])) | (apply wpList_alN z23 10; (· rfl); (· rfl); (· rfl); (· assumption); intro b10 w' M'; (conv => arg 5; simp only [Act.put, List.setIfInBounds_toArray, List.set_cons_succ, List.set_cons_zero])) | (apply wpList_stN s5; (· rfl); (· rfl); (· rfl); (· rfl); (· assumption); (· (repeat (first | exact Swap.head | apply Swap.tail))); (· (first | with_reducible assumption | omega | (simp only [nums_length, List.length_set, List.length_replicate]; first | with_reducible assumption | omega) | rfl | (simp [*]; done) | (simp [*]; omega))); intro w' M'; (conv => arg 5; simp only [Act.put, List.setIfInBounds_toArray, List.set_cons_succ, List.set_cons_zero])))
      go_roundw
      case rel => exact ⟨i + 1, by go_num, by omega, by rw [HF.out] at M'; rw [show 32 - (i + 1) = 32 - i - 1 from by omega]; exact M'⟩
      case measure => simp [intOf]; omega
    · obtain rfl : i = 32 := by omega
      rw [show ((32 : Nat) : Int) = 32 from rfl]
      rw [Nat.sub_self, List.replicate_zero, List.append_nil, ← HB.out] at Mi
      clear hl zb
      go_wp2_with fail
      refine wp_region_planT (.free 0 (.free 1 (.free 3 (.free 6 (.free 7 (.free 10 (.free 11 (.one 2 (.one 4 (.free 5 (.one 8 (.free 9 (.one 12 (.free 13 (.one 14 (.free 15 .done)))))))))))))))) (by kernel_rfl) (by kernel_rfl) (fun _ _ _ _ _ h => h) Mi (fun w1 M1 => ?_)
      clear Mi
      refine wpT_free rfl rfl (.inl ⟨rfl, fun w hw => run_ldrowN Try.underlying23 s23 rfl rfl rfl hw List.mem_cons_self lk2⟩) (by assumption) ?_; (conv => arg 6; simp only [Act.put, List.setIfInBounds_toArray, List.set_cons_succ, List.set_cons_zero])
      (refine wpT_free rfl rfl (.inl ⟨rfl, fun w _ => by go_simp; rfl⟩) (by assumption) ?_; (conv => arg 6; simp only [Act.put, List.setIfInBounds_toArray, List.set_cons_succ, List.set_cons_zero]))
      (refine wpT_free rfl rfl (.inl ⟨rfl, fun w _ => by go_simp; rfl⟩) (by assumption) ?_; (conv => arg 6; simp only [Act.put, List.setIfInBounds_toArray, List.set_cons_succ, List.set_cons_zero]))
      (refine wpT_free rfl rfl (.inl ⟨rfl, fun w _ => by go_simp; rfl⟩) (by assumption) ?_; (conv => arg 6; simp only [Act.put, List.setIfInBounds_toArray, List.set_cons_succ, List.set_cons_zero]))
      (refine wpT_free rfl rfl (.inl ⟨rfl, fun w _ => by go_simp; rfl⟩) (by assumption) ?_; (conv => arg 6; simp only [Act.put, List.setIfInBounds_toArray, List.set_cons_succ, List.set_cons_zero]))
      (refine wpT_free rfl rfl (.inl ⟨rfl, fun w _ => by go_simp; rfl⟩) (by assumption) ?_; (conv => arg 6; simp only [Act.put, List.setIfInBounds_toArray, List.set_cons_succ, List.set_cons_zero]))
      (refine wpT_free rfl rfl (.inl ⟨rfl, fun w _ => by go_simp; rfl⟩) (by assumption) ?_; (conv => arg 6; simp only [Act.put, List.setIfInBounds_toArray, List.set_cons_succ, List.set_cons_zero]))
      refine wpT_op rfl ?_
      go_wp2_with (go_at_call 63; refine (h63a.out _).mono ?_; rintro e w' ⟨rfl, rfl⟩)
      refine PlanTQ.mk M1 (wpT_op rfl ?_)
      go_wp2_with (go_at_call 63; refine (h63t.out _).mono ?_; rintro e w' ⟨rfl, rfl⟩)
      refine PlanTQ.mk M1 ?_
      (refine wpT_free rfl rfl (.inl ⟨rfl, fun w _ => by go_simp; rw [if_neg (by (try simp only [ByteArray.size_append]); omega)]⟩) (by assumption) ?_; (conv => arg 6; simp only [Act.put, List.setIfInBounds_toArray, List.set_cons_succ, List.set_cons_zero]))
      refine wpT_op rfl ?_
      go_wp2_with (go_at_call 64; refine (h64a.out _).mono ?_; rintro e w' ⟨rfl, hb⟩; replace M1 := M1.call hb)
      refine PlanTQ.mk M1 ?_
      (refine wpT_free rfl rfl (.inl ⟨rfl, fun w _ => by go_simp; rw [if_neg (by (try simp only [ByteArray.size_append]); omega)]⟩) (by assumption) ?_; (conv => arg 6; simp only [Act.put, List.setIfInBounds_toArray, List.set_cons_succ, List.set_cons_zero]))
      refine wpT_op rfl ?_
      go_wp2_with (go_at_call 64; refine (h64t.out _).mono ?_; rintro e w' ⟨rfl, hb⟩; replace M1 := M1.call hb)
      refine PlanTQ.mk M1 ?_
      (refine wpT_free rfl rfl (.inl ⟨rfl, fun w _ => by go_simp; rw [if_neg (by (try simp only [ByteArray.size_append]); omega)]⟩) (by assumption) ?_; (conv => arg 6; simp only [Act.put, List.setIfInBounds_toArray, List.set_cons_succ, List.set_cons_zero]))
      refine wpT_op rfl ?_
      go_wp2_with (go_at_call 28; refine (h28.out _).mono ?_; rintro e w' ⟨rfl, hb⟩; replace M1 := M1.call hb)
      refine PlanTQ.mk M1 ?_
      (refine wpT_free rfl rfl (.inl ⟨rfl, fun w _ => by go_simp; rfl⟩) (by assumption) ?_; (conv => arg 6; simp only [Act.put, List.setIfInBounds_toArray, List.set_cons_succ, List.set_cons_zero]))
      refine wpT_done ?_
      go_wp2_with fail
      go_ret
      exact ⟨rfl, M1.below⟩
end Go.Proofs.Ytcjfpcajjhccaaa
namespace Go.Proofs.Ytcjfpcajjhccaaa
open Go.RowKit
def GreatA (w : World) (text : ByteArray) (ps : List ByteArray) (e : Ending) (w' : World) : Prop := ∃ b, e = .returned (.bool b) ∧ w' = w ∧ (b = false → text.size ≤ 1000 ∧ ps.length ≤ 20 ∧ ∀ p ∈ ps, p.size ≤ 300)
set_option maxRecDepth 100000 in
/-- The texts are many or long, or they are neither. -/
theorem great37 (text : ByteArray) (A : Option Addr) (cap : Nat) (ps : List ByteArray) (w : World) (hA : RowS w A ps) (hn : ps.length ≤ maxLen) (hs : ∀ p ∈ ps, p.size ≤ maxLen) :
    Calls Try.prog 37 #[.string text, .slice A ps.length cap] w (GreatA w text ps) := by
  have hmax : maxLen < 9223372036854775808 := by decide
  by_cases ht : text.size ≤ 1000
  · have ht0 : ¬ (1000 : Int) < (text.size : Int) := by omega
    by_cases h30 : ps.length ≤ 20
    · have h0 : ¬ (20 : Int) < (ps.length : Int) := by omega
      go_enter Try.func37, Try.ntmps37
      go_wp2_with fail
      go_loop [5] (fun n => ∃ i : Nat, i ≤ ps.length ∧ n = .int .i64 i ∧ Hid (∀ p ∈ ps.take i, p.size ≤ 300)) (fun n => ps.length - (intOf n).toNat)
      case atStart => exact ⟨0, by omega, rfl, hid (fun p hp => by simp at hp)⟩
      case round =>
        obtain ⟨i, hi, rfl, HP⟩ := hrel
        by_cases hlt : i < ps.length
        · have hltI : (i : Int) < (ps.length : Int) := by omega
          obtain ⟨p, hp⟩ : ∃ p, ps[i]? = some p := ⟨ps[i], List.getElem?_eq_getElem hlt⟩
          obtain ⟨b, off, rfl, hc⟩ := hA i p hp
          have hps := hs p (List.mem_of_getElem? hp)
          have ht : ps.take (i + 1) = ps.take i ++ [p] := by
            rw [List.take_succ_eq_append_getElem hlt]
            rw [List.getElem?_eq_getElem hlt] at hp
            simp at hp
            rw [hp]
          have HT := hid ht
          clear hp ht
          by_cases h5 : p.size ≤ 300
          · have h5I : ¬ (300 : Int) < (p.size : Int) := by omega
            go_wp2_with fail
            go_round
            case rel => exact ⟨i + 1, by omega, by go_num, hid (fun q hq => by rw [HT.out] at hq; exact (List.mem_append.1 hq).elim (HP.out q) (fun h => by simp at h; subst h; exact h5))⟩
            case measure => simp [intOf]; omega
          · have h5I : (300 : Int) < (p.size : Int) := by omega
            go_wp2_with fail
            go_ret
            exact ⟨true, rfl, rfl, fun h => by cases h⟩
        · obtain rfl : i = ps.length := by omega
          have HP' := HP.out
          rw [List.take_of_length_le (Nat.le_refl _)] at HP'
          have HH := hid HP'
          clear HP' HP
          go_wp2_with fail
          go_ret
          exact ⟨false, rfl, rfl, fun _ => ⟨ht, h30, HH.out⟩⟩
    · have h0 : (20 : Int) < (ps.length : Int) := by omega
      go_enter Try.func37, Try.ntmps37
      go_wp2_with fail
      go_ret
      exact ⟨true, rfl, rfl, fun h => by cases h⟩
  · have ht0 : (1000 : Int) < (text.size : Int) := by omega
    go_enter Try.func37, Try.ntmps37
    go_wp2_with fail
    go_ret
    exact ⟨true, rfl, rfl, fun h => by cases h⟩
end Go.Proofs.Ytcjfpcajjhccaaa
