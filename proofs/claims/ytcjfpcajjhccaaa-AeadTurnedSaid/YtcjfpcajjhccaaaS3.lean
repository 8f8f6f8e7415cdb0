/- Walks of the stream layer, third part: a block. -/
import Derived.Test.YtcjfpcajjhccaaaS2
set_option linter.unusedVariables false
set_option linter.unusedSimpArgs false
namespace Go.Proofs.Ytcjfpcajjhccaaa
open Go.RowKit
theorem quarterI (g : Nat) (t : TypeId) (xs : List Int) (a b c d : Nat) {A B C D : Int} (hA : A = a) (hB : B = b) (hC : C = c) (hD : D = d) (w : World) (ha : a < 16) (hb : b < 16) (hc : c < 16) (hd : d < 16) (hl : xs.length = 16) {w0 : World} {E : List Nat} {L L' : List Item}
    (M : Mem w0 E w L) (hs : Swap (.blk g (rowO .u32 t xs)) (.blk g (rowO .u32 t (qround xs a b c d))) L L') :
    Calls Try.prog 55 #[.pointer (some ⟨g, 0, none⟩), .int .i64 A, .int .i64 B, .int .i64 C, .int .i64 D] w fun e w' => e = .returned (.tuple #[]) ∧ Mem w0 E w' L' := by
  subst hA hB hC hD
  exact (quarter55 g t xs a b c d w ha hb hc hd hl (M.holds _ hs.mem)).mono fun e w' ⟨he, hg, hh⟩ => ⟨he, M.swap hs hg (.inr rfl) hh (fun b hb => .inl hb)⟩
/-- The i-th quarter round of a double round. -/
def qi (xs : List Int) (i : Nat) : List Int := qround xs (i % 4) (4 + (i + i / 4) % 4) (8 + (i + 2 * (i / 4)) % 4) (12 + (i + 3 * (i / 4)) % 4)
def half (xs : List Int) (n : Nat) : List Int := (List.range n).foldl qi xs
def rounds (xs : List Int) : Nat → List Int
  | 0 => xs
  | n + 1 => half (rounds xs n) 8
theorem half_succ (xs : List Int) (n : Nat) : half xs (n + 1) = qi (half xs n) n := by simp [half, List.range_succ]
theorem half_length (xs : List Int) (n : Nat) : (half xs n).length = xs.length := by
  induction n with
  | zero => simp [half]
  | succ n ih => rw [half_succ, qi, qround_length, ih]
theorem rounds_length (xs : List Int) (n : Nat) : (rounds xs n).length = xs.length := by
  induction n with
  | zero => rfl
  | succ n ih => rw [rounds, half_length, ih]
def bytes4 (x : Int) : List Int := [x % 256, x / 256 % 256, x / 65536 % 256, x / 16777216 % 256]
def ser (ws first : List Int) (n : Nat) : List Int := (List.range n).flatMap fun i => bytes4 ((rd ws i + rd first i) % 4294967296)
theorem ser_succ (ws first : List Int) (n : Nat) : ser ws first (n + 1) = ser ws first n ++ bytes4 ((rd ws n + rd first n) % 4294967296) := by simp [ser, List.range_succ]
theorem ser_length (ws first : List Int) (n : Nat) : (ser ws first n).length = 4 * n := by
  induction n with
  | zero => rfl
  | succ n ih => rw [ser_succ, List.length_append, ih]; simp [bytes4]; omega
theorem ser_bytes (ws first : List Int) (n : Nat) : ∀ x ∈ ser ws first n, isByte x := by
  intro x hx
  simp only [ser, List.mem_flatMap] at hx
  obtain ⟨i, _, h⟩ := hx
  simp [bytes4] at h
  rcases h with rfl | rfl | rfl | rfl <;> exact ⟨by omega, by omega⟩
/-- The block's bytes. -/
def blockB (key nonce : List Int) (ctr : Int) : List Int := ser (rounds (initWords key nonce ctr) 10) (initWords key nonce ctr) 16
theorem blockB_length (key nonce : List Int) (ctr : Int) : (blockB key nonce ctr).length = 64 := by rw [blockB, ser_length]
theorem blockB_bytes (key nonce : List Int) (ctr : Int) : ∀ x ∈ blockB key nonce ctr, isByte x := ser_bytes _ _ _
theorem fill4 (pre : List Int) (m i : Nat) (a b c d : Int) (hi : i = pre.length) (hm : 4 ≤ m) :
    ((((pre ++ List.replicate m 0).set i a).set (i + 1) b).set (i + 2) c).set (i + 3) d = pre ++ [a, b, c, d] ++ List.replicate (m - 4) 0 := by
  rw [fill_set pre m i a hi (by omega), fill_set (pre ++ [a]) (m - 1) (i + 1) b (by simp [hi]) (by omega), fill_set (pre ++ [a] ++ [b]) (m - 1 - 1) (i + 2) c (by simp [hi]) (by omega),
    fill_set (pre ++ [a] ++ [b] ++ [c]) (m - 1 - 1 - 1) (i + 3) d (by simp [hi]) (by omega)]
  simp only [List.append_assoc, List.cons_append, List.nil_append]
  congr 5

set_option maxRecDepth 100000 in
set_option maxHeartbeats 4000000 in
theorem block42 (key : List Int) (s : ByteArray) (ctr : Int) (w : World) (hkl : key.length = 32) (hkb : ∀ x ∈ key, isByte x) (hs : s.size = 12) :
    Calls Try.prog 42 #[.agg (nums .u8 key).toArray, .string s, .int .u32 ctr] w fun e w' => e = .returned (.agg (nums .u8 (blockB key (bytesOf s) ctr)).toArray) ∧ Below w.heap.size w w' := by
  have M0 := Mem.start w
  obtain ⟨fi, hfi⟩ : ∃ x, x = initWords key (bytesOf s) ctr := ⟨_, rfl⟩
  have lf : fi.length = 16 := by rw [hfi]; exact initWords_length _ _ _
  have HB := hid (fun w => begin54 key s ctr w hkl hkb hs)
  rw [← hfi] at HB
  have Hfi := hid hfi
  clear hfi
  go_enter Try.func42, Try.ntmps42
  go_wp2_with (first | (go_at_call 54; refine (HB.out _).mono ?_; rintro e w' ⟨rfl, hb⟩; replace M' := M'.call hb) | (apply wpList_bxN 3; (· rfl); (· rfl); (· rfl); (· rfl); (· assumption); intro b3 w' M'; (conv => arg 5; simp only [Act.put, List.setIfInBounds_toArray, List.set_cons_succ, List.set_cons_zero])) | (apply wpList_alN z71 6; (· rfl); (· rfl); (· rfl); (· assumption); intro b6 w' M'; (conv => arg 5; simp only [Act.put, List.setIfInBounds_toArray, List.set_cons_succ, List.set_cons_zero])) | (apply wpList_ldrowN Try.underlying23 s23; (· rfl); (· rfl); (· rfl); (· rfl); (· assumption); (· (repeat (first | exact List.mem_cons_self | refine List.mem_cons_of_mem _ ?_))); (· (first | with_reducible assumption | omega | (simp only [nums_length, List.length_set, List.length_replicate]; first | with_reducible assumption | omega) | rfl | (simp [*]; done) | (simp [*]; omega))); (conv => arg 5; simp only [Act.put, List.setIfInBounds_toArray, List.set_cons_succ, List.set_cons_zero])) | (apply wpList_alN z89 7; (· rfl); (· rfl); (· rfl); (· assumption); intro b7 w' M'; (conv => arg 5; simp only [Act.put, List.setIfInBounds_toArray, List.set_cons_succ, List.set_cons_zero])) | (apply wpList_strowN s89; (· rfl); (· rfl); (· rfl); (· rfl); (· assumption); (· (repeat (first | exact Swap.head | apply Swap.tail))); (· (first | with_reducible assumption | omega | (simp only [nums_length, List.length_set, List.length_replicate]; first | with_reducible assumption | omega) | rfl | (simp [*]; done) | (simp [*]; omega))); (· (first | with_reducible assumption | omega | (simp only [nums_length, List.length_set, List.length_replicate]; first | with_reducible assumption | omega) | rfl | (simp [*]; done) | (simp [*]; omega))); intro w' M'; (conv => arg 5; simp only [Act.put, List.setIfInBounds_toArray, List.set_cons_succ, List.set_cons_zero])) | (apply wpList_ldrowN Try.underlying89 s89; (· rfl); (· rfl); (· rfl); (· rfl); (· assumption); (· (repeat (first | exact List.mem_cons_self | refine List.mem_cons_of_mem _ ?_))); (· (first | with_reducible assumption | omega | (simp only [nums_length, List.length_set, List.length_replicate]; first | with_reducible assumption | omega) | rfl | (simp [*]; done) | (simp [*]; omega))); (conv => arg 5; simp only [Act.put, List.setIfInBounds_toArray, List.set_cons_succ, List.set_cons_zero])) | (apply wpList_alN z89 8; (· rfl); (· rfl); (· rfl); (· assumption); intro b8 w' M'; (conv => arg 5; simp only [Act.put, List.setIfInBounds_toArray, List.set_cons_succ, List.set_cons_zero])) | (apply wpList_alN z71 11; (· rfl); (· rfl); (· rfl); (· assumption); intro b11 w' M'; (conv => arg 5; simp only [Act.put, List.setIfInBounds_toArray, List.set_cons_succ, List.set_cons_zero])) | (apply wpList_ldN Try.underlying24; (· rfl); (· rfl); (· rfl); (· rfl); (· assumption); (· (repeat (first | exact List.mem_cons_self | refine List.mem_cons_of_mem _ ?_))); (· (first | with_reducible assumption | omega | (simp only [nums_length, List.length_set, List.length_replicate]; first | with_reducible assumption | omega) | rfl | (simp [*]; done) | (simp [*]; omega))); (conv => arg 5; simp only [Act.put, List.setIfInBounds_toArray, List.set_cons_succ, List.set_cons_zero])) | (apply wpList_stN s5; (· rfl); (· rfl); (· rfl); (· rfl); (· assumption); (· (repeat (first | exact Swap.head | apply Swap.tail))); (· (first | with_reducible assumption | omega | (simp only [nums_length, List.length_set, List.length_replicate]; first | with_reducible assumption | omega) | rfl | (simp [*]; done) | (simp [*]; omega))); intro w' M'; (conv => arg 5; simp only [Act.put, List.setIfInBounds_toArray, List.set_cons_succ, List.set_cons_zero])) | (apply wpList_ldrowN Try.underlying71 s71; (· rfl); (· rfl); (· rfl); (· rfl); (· assumption); (· (repeat (first | exact List.mem_cons_self | refine List.mem_cons_of_mem _ ?_))); (· (first | with_reducible assumption | omega | (simp only [nums_length, List.length_set, List.length_replicate]; first | with_reducible assumption | omega) | rfl | (simp [*]; done) | (simp [*]; omega))); (conv => arg 5; simp only [Act.put, List.setIfInBounds_toArray, List.set_cons_succ, List.set_cons_zero])) | (apply wpList_strowN s71; (· rfl); (· rfl); (· rfl); (· rfl); (· assumption); (· (repeat (first | exact Swap.head | apply Swap.tail))); (· (first | with_reducible assumption | omega | (simp only [nums_length, List.length_set, List.length_replicate]; first | with_reducible assumption | omega) | rfl | (simp [*]; done) | (simp [*]; omega))); (· (first | with_reducible assumption | omega | (simp only [nums_length, List.length_set, List.length_replicate]; first | with_reducible assumption | omega) | rfl | (simp [*]; done) | (simp [*]; omega))); intro w' M'; (conv => arg 5; simp only [Act.put, List.setIfInBounds_toArray, List.set_cons_succ, List.set_cons_zero])))
  go_loopw [19] (fun n wr => ∃ k : Nat, k ≤ 10 ∧ n = .int .i64 k ∧ Mem w [] wr [.blk b8 (rowO .u32 89 (rounds fi k)), .blk b7 (rowO .u32 89 fi), .blk b6 (rowO .u8 71 (List.replicate 64 0)), .blk b3 (rowO .u8 23 key)]) (fun n _ => 10 - (intOf n).toNat)
  case atStart => exact ⟨0, by omega, rfl, M'⟩
  case round =>
    obtain ⟨k, hk10, rfl, Mr⟩ := hrel
    by_cases hk : k < 10
    · have hkI : (k : Int) < 10 := by omega
      obtain ⟨x0, hx0⟩ : ∃ x, x = rounds fi k := ⟨_, rfl⟩
      have l0 : x0.length = 16 := by rw [hx0, rounds_length, lf]
      rw [← hx0] at Mr
      have HX := hid hx0
      clear hx0
      clear M'
      go_wp2_with (fail)
      obtain ⟨wo, rfl⟩ : ∃ wo : World, wo = wr := ⟨_, rfl⟩
      go_loopw [21] (fun n wi => ∃ i : Nat, i ≤ 4 ∧ n = .int .i64 i ∧ Mem w [] wi [.blk b8 (rowO .u32 89 (half x0 i)), .blk b7 (rowO .u32 89 fi), .blk b6 (rowO .u8 71 (List.replicate 64 0)), .blk b3 (rowO .u8 23 key)]) (fun n _ => 4 - (intOf n).toNat)
      case atStart => exact ⟨0, by omega, rfl, Mr⟩
      case round =>
        obtain ⟨i, hi4, rfl, Mi⟩ := hrel
        by_cases hi : i < 4
        · have hiI : (i : Int) < 4 := by omega
          have hq : half x0 (i + 1) = qround (half x0 i) i (4 + i) (8 + i) (12 + i) := by
            rw [half_succ, qi]
            congr 1 <;> omega
          have HQ := hid hq
          have lh : (half x0 i).length = 16 := by rw [half_length, l0]
          clear hq
          go_wp2_with (first | (go_at_call 55; refine (quarterI b8 89 (half x0 i) i (4 + i) (8 + i) (12 + i) (by omega) (by omega) (by omega) (by omega) _ (by omega) (by omega) (by omega) (by omega) lh Mi Swap.head).mono ?_; rintro e w' ⟨rfl, M'⟩))
          go_roundw
          case rel => exact ⟨i + 1, by omega, by go_num, by rw [HQ.out]; exact M'⟩
          case measure => simp [intOf]; omega
        · obtain rfl : i = 4 := by omega
          rw [show ((4 : Nat) : Int) = 4 from rfl]
          go_wp2_with (fail)
          go_loopw [33] (fun n wi => ∃ i : Nat, i ≤ 4 ∧ n = .int .i64 i ∧ Mem w [] wi [.blk b8 (rowO .u32 89 (half x0 (4 + i))), .blk b7 (rowO .u32 89 fi), .blk b6 (rowO .u8 71 (List.replicate 64 0)), .blk b3 (rowO .u8 23 key)]) (fun n _ => 4 - (intOf n).toNat)
          case atStart => exact ⟨0, by omega, rfl, Mi⟩
          case round =>
            obtain ⟨i, hi4', rfl, Mi'⟩ := hrel
            by_cases hi : i < 4
            · have hiI : (i : Int) < 4 := by omega
              have hq : half x0 (4 + (i + 1)) = qround (half x0 (4 + i)) i (4 + (i + 1) % 4) (8 + (i + 2) % 4) (12 + (i + 3) % 4) := by
                rw [← Nat.add_assoc, half_succ, qi]
                congr 1 <;> omega
              have HQ := hid hq
              have lh : (half x0 (4 + i)).length = 16 := by rw [half_length, l0]
              clear hq
              go_wp2_with (first | (go_at_call 55; refine (quarterI b8 89 (half x0 (4 + i)) i (4 + (i + 1) % 4) (8 + (i + 2) % 4) (12 + (i + 3) % 4) (by omega) (by omega) (by omega) (by omega) _ (by omega) (by omega) (by omega) (by omega) lh Mi' Swap.head).mono ?_; rintro e w' ⟨rfl, M'⟩))
              go_roundw
              case rel => exact ⟨i + 1, by omega, by go_num, by rw [HQ.out]; exact M'⟩
              case measure => simp [intOf]; omega
            · obtain rfl : i = 4 := by omega
              rw [show ((4 : Nat) : Int) = 4 from rfl]
              go_wp2_with (fail)
              go_roundw
              case rel => exact ⟨k + 1, by omega, by go_num, by rw [rounds, ← HX.out]; exact Mi'⟩
              case measure => simp [intOf]; omega
    · obtain rfl : k = 10 := by omega
      rw [show ((10 : Nat) : Int) = 10 from rfl]
      obtain ⟨x0, hx0⟩ : ∃ x, x = rounds fi 10 := ⟨_, rfl⟩
      have l0 : x0.length = 16 := by rw [hx0, rounds_length, lf]
      rw [← hx0] at Mr
      have HX := hid hx0
      clear hx0 M'
      go_wp2_with (first | (apply wpList_bxN 3; (· rfl); (· rfl); (· rfl); (· rfl); (· assumption); intro b3 w' M'; (conv => arg 5; simp only [Act.put, List.setIfInBounds_toArray, List.set_cons_succ, List.set_cons_zero])) | (apply wpList_alN z71 6; (· rfl); (· rfl); (· rfl); (· assumption); intro b6 w' M'; (conv => arg 5; simp only [Act.put, List.setIfInBounds_toArray, List.set_cons_succ, List.set_cons_zero])) | (apply wpList_ldrowN Try.underlying23 s23; (· rfl); (· rfl); (· rfl); (· rfl); (· assumption); (· (repeat (first | exact List.mem_cons_self | refine List.mem_cons_of_mem _ ?_))); (· (first | with_reducible assumption | omega | (simp only [nums_length, List.length_set, List.length_replicate]; first | with_reducible assumption | omega) | rfl | (simp [*]; done) | (simp [*]; omega))); (conv => arg 5; simp only [Act.put, List.setIfInBounds_toArray, List.set_cons_succ, List.set_cons_zero])) | (apply wpList_alN z89 7; (· rfl); (· rfl); (· rfl); (· assumption); intro b7 w' M'; (conv => arg 5; simp only [Act.put, List.setIfInBounds_toArray, List.set_cons_succ, List.set_cons_zero])) | (apply wpList_strowN s89; (· rfl); (· rfl); (· rfl); (· rfl); (· assumption); (· (repeat (first | exact Swap.head | apply Swap.tail))); (· (first | with_reducible assumption | omega | (simp only [nums_length, List.length_set, List.length_replicate]; first | with_reducible assumption | omega) | rfl | (simp [*]; done) | (simp [*]; omega))); (· (first | with_reducible assumption | omega | (simp only [nums_length, List.length_set, List.length_replicate]; first | with_reducible assumption | omega) | rfl | (simp [*]; done) | (simp [*]; omega))); intro w' M'; (conv => arg 5; simp only [Act.put, List.setIfInBounds_toArray, List.set_cons_succ, List.set_cons_zero])) | (apply wpList_ldrowN Try.underlying89 s89; (· rfl); (· rfl); (· rfl); (· rfl); (· assumption); (· (repeat (first | exact List.mem_cons_self | refine List.mem_cons_of_mem _ ?_))); (· (first | with_reducible assumption | omega | (simp only [nums_length, List.length_set, List.length_replicate]; first | with_reducible assumption | omega) | rfl | (simp [*]; done) | (simp [*]; omega))); (conv => arg 5; simp only [Act.put, List.setIfInBounds_toArray, List.set_cons_succ, List.set_cons_zero])) | (apply wpList_alN z89 8; (· rfl); (· rfl); (· rfl); (· assumption); intro b8 w' M'; (conv => arg 5; simp only [Act.put, List.setIfInBounds_toArray, List.set_cons_succ, List.set_cons_zero])) | (apply wpList_alN z71 11; (· rfl); (· rfl); (· rfl); (· assumption); intro b11 w' M'; (conv => arg 5; simp only [Act.put, List.setIfInBounds_toArray, List.set_cons_succ, List.set_cons_zero])) | (apply wpList_ldN Try.underlying24; (· rfl); (· rfl); (· rfl); (· rfl); (· assumption); (· (repeat (first | exact List.mem_cons_self | refine List.mem_cons_of_mem _ ?_))); (· (first | with_reducible assumption | omega | (simp only [nums_length, List.length_set, List.length_replicate]; first | with_reducible assumption | omega) | rfl | (simp [*]; done) | (simp [*]; omega))); (conv => arg 5; simp only [Act.put, List.setIfInBounds_toArray, List.set_cons_succ, List.set_cons_zero])) | (apply wpList_stN s5; (· rfl); (· rfl); (· rfl); (· rfl); (· assumption); (· (repeat (first | exact Swap.head | apply Swap.tail))); (· (first | with_reducible assumption | omega | (simp only [nums_length, List.length_set, List.length_replicate]; first | with_reducible assumption | omega) | rfl | (simp [*]; done) | (simp [*]; omega))); intro w' M'; (conv => arg 5; simp only [Act.put, List.setIfInBounds_toArray, List.set_cons_succ, List.set_cons_zero])) | (apply wpList_ldrowN Try.underlying71 s71; (· rfl); (· rfl); (· rfl); (· rfl); (· assumption); (· (repeat (first | exact List.mem_cons_self | refine List.mem_cons_of_mem _ ?_))); (· (first | with_reducible assumption | omega | (simp only [nums_length, List.length_set, List.length_replicate]; first | with_reducible assumption | omega) | rfl | (simp [*]; done) | (simp [*]; omega))); (conv => arg 5; simp only [Act.put, List.setIfInBounds_toArray, List.set_cons_succ, List.set_cons_zero])) | (apply wpList_strowN s71; (· rfl); (· rfl); (· rfl); (· rfl); (· assumption); (· (repeat (first | exact Swap.head | apply Swap.tail))); (· (first | with_reducible assumption | omega | (simp only [nums_length, List.length_set, List.length_replicate]; first | with_reducible assumption | omega) | rfl | (simp [*]; done) | (simp [*]; omega))); (· (first | with_reducible assumption | omega | (simp only [nums_length, List.length_set, List.length_replicate]; first | with_reducible assumption | omega) | rfl | (simp [*]; done) | (simp [*]; omega))); intro w' M'; (conv => arg 5; simp only [Act.put, List.setIfInBounds_toArray, List.set_cons_succ, List.set_cons_zero])))
      go_loopw [52] (fun n wi => ∃ i : Nat, i ≤ 16 ∧ n = .int .i64 i ∧ Mem w [] wi [.blk b11 (rowO .u8 71 (ser x0 fi i ++ List.replicate (64 - 4 * i) 0)), .blk b8 (rowO .u32 89 x0), .blk b7 (rowO .u32 89 fi), .blk b6 (rowO .u8 71 (List.replicate 64 0)), .blk b3 (rowO .u8 23 key)]) (fun n _ => 16 - (intOf n).toNat)
      case atStart => exact ⟨0, by omega, rfl, M'⟩
      case round =>
        obtain ⟨i, hi16, rfl, Mi⟩ := hrel
        by_cases hi : i < 16
        · have hiI : (i : Int) < 16 := by omega
          clear M'
          go_wp2_with (fail)
          refine wp_region_stillM (by kernel_rfl) (by kernel_rfl) Mi (fun w1 M1 => ?_)
          have c1 : w1.cell? ⟨b8, i, none⟩ = some (.int .u32 (rd x0 i)) := M1.cellN (List.mem_cons_of_mem _ List.mem_cons_self) (by omega)
          have c2 : w1.cell? ⟨b7, i, none⟩ = some (.int .u32 (rd fi i)) := M1.cellN (List.mem_cons_of_mem _ (List.mem_cons_of_mem _ List.mem_cons_self)) (by omega)
          repeat still_step
          refine wpStill_nil ?_
          clear c1 c2
          rw [IntKind.wrap_u32]
          obtain ⟨x, hx⟩ : ∃ x, x = (rd x0 i + rd fi i) % 4294967296 := ⟨_, rfl⟩
          have hx0 : 0 ≤ x := by rw [hx]; omega
          have hx1 : x < 4294967296 := by rw [hx]; omega
          rw [← hx]
          have HX2 := hid hx
          have hlen : (ser x0 fi i ++ List.replicate (64 - 4 * i) 0).length = 64 := by rw [List.length_append, ser_length, List.length_replicate]; omega
          clear hx
          go_wp2_with (first | (apply wpList_bxN 3; (· rfl); (· rfl); (· rfl); (· rfl); (· assumption); intro b3 w' M'; (conv => arg 5; simp only [Act.put, List.setIfInBounds_toArray, List.set_cons_succ, List.set_cons_zero])) | (apply wpList_alN z71 6; (· rfl); (· rfl); (· rfl); (· assumption); intro b6 w' M'; (conv => arg 5; simp only [Act.put, List.setIfInBounds_toArray, List.set_cons_succ, List.set_cons_zero])) | (apply wpList_ldrowN Try.underlying23 s23; (· rfl); (· rfl); (· rfl); (· rfl); (· assumption); (· (repeat (first | exact List.mem_cons_self | refine List.mem_cons_of_mem _ ?_))); (· (first | with_reducible assumption | omega | (simp only [nums_length, List.length_set, List.length_replicate]; first | with_reducible assumption | omega) | rfl | (simp [*]; done) | (simp [*]; omega))); (conv => arg 5; simp only [Act.put, List.setIfInBounds_toArray, List.set_cons_succ, List.set_cons_zero])) | (apply wpList_alN z89 7; (· rfl); (· rfl); (· rfl); (· assumption); intro b7 w' M'; (conv => arg 5; simp only [Act.put, List.setIfInBounds_toArray, List.set_cons_succ, List.set_cons_zero])) | (apply wpList_strowN s89; (· rfl); (· rfl); (· rfl); (· rfl); (· assumption); (· (repeat (first | exact Swap.head | apply Swap.tail))); (· (first | with_reducible assumption | omega | (simp only [nums_length, List.length_set, List.length_replicate]; first | with_reducible assumption | omega) | rfl | (simp [*]; done) | (simp [*]; omega))); (· (first | with_reducible assumption | omega | (simp only [nums_length, List.length_set, List.length_replicate]; first | with_reducible assumption | omega) | rfl | (simp [*]; done) | (simp [*]; omega))); intro w' M'; (conv => arg 5; simp only [Act.put, List.setIfInBounds_toArray, List.set_cons_succ, List.set_cons_zero])) | (apply wpList_ldrowN Try.underlying89 s89; (· rfl); (· rfl); (· rfl); (· rfl); (· assumption); (· (repeat (first | exact List.mem_cons_self | refine List.mem_cons_of_mem _ ?_))); (· (first | with_reducible assumption | omega | (simp only [nums_length, List.length_set, List.length_replicate]; first | with_reducible assumption | omega) | rfl | (simp [*]; done) | (simp [*]; omega))); (conv => arg 5; simp only [Act.put, List.setIfInBounds_toArray, List.set_cons_succ, List.set_cons_zero])) | (apply wpList_alN z89 8; (· rfl); (· rfl); (· rfl); (· assumption); intro b8 w' M'; (conv => arg 5; simp only [Act.put, List.setIfInBounds_toArray, List.set_cons_succ, List.set_cons_zero])) | (apply wpList_alN z71 11; (· rfl); (· rfl); (· rfl); (· assumption); intro b11 w' M'; (conv => arg 5; simp only [Act.put, List.setIfInBounds_toArray, List.set_cons_succ, List.set_cons_zero])) | (apply wpList_ldN Try.underlying24; (· rfl); (· rfl); (· rfl); (· rfl); (· assumption); (· (repeat (first | exact List.mem_cons_self | refine List.mem_cons_of_mem _ ?_))); (· (first | with_reducible assumption | omega | (simp only [nums_length, List.length_set, List.length_replicate]; first | with_reducible assumption | omega) | rfl | (simp [*]; done) | (simp [*]; omega))); (conv => arg 5; simp only [Act.put, List.setIfInBounds_toArray, List.set_cons_succ, List.set_cons_zero])) | (apply wpList_stN s5; (· rfl); (· rfl); (· rfl); (· rfl); (· assumption); (· (repeat (first | exact Swap.head | apply Swap.tail))); (· (first | with_reducible assumption | omega | (simp only [nums_length, List.length_set, List.length_replicate]; first | with_reducible assumption | omega) | rfl | (simp [*]; done) | (simp [*]; omega))); intro w' M'; (conv => arg 5; simp only [Act.put, List.setIfInBounds_toArray, List.set_cons_succ, List.set_cons_zero])) | (apply wpList_ldrowN Try.underlying71 s71; (· rfl); (· rfl); (· rfl); (· rfl); (· assumption); (· (repeat (first | exact List.mem_cons_self | refine List.mem_cons_of_mem _ ?_))); (· (first | with_reducible assumption | omega | (simp only [nums_length, List.length_set, List.length_replicate]; first | with_reducible assumption | omega) | rfl | (simp [*]; done) | (simp [*]; omega))); (conv => arg 5; simp only [Act.put, List.setIfInBounds_toArray, List.set_cons_succ, List.set_cons_zero])) | (apply wpList_strowN s71; (· rfl); (· rfl); (· rfl); (· rfl); (· assumption); (· (repeat (first | exact Swap.head | apply Swap.tail))); (· (first | with_reducible assumption | omega | (simp only [nums_length, List.length_set, List.length_replicate]; first | with_reducible assumption | omega) | rfl | (simp [*]; done) | (simp [*]; omega))); (· (first | with_reducible assumption | omega | (simp only [nums_length, List.length_set, List.length_replicate]; first | with_reducible assumption | omega) | rfl | (simp [*]; done) | (simp [*]; omega))); intro w' M'; (conv => arg 5; simp only [Act.put, List.setIfInBounds_toArray, List.set_cons_succ, List.set_cons_zero])))
          go_roundw
          case rel =>
            refine ⟨i + 1, by omega, by go_num, ?_⟩
            have e := fill4 (ser x0 fi i) (64 - 4 * i) (4 * i) (x % 256) (x / 256 % 256) (x / 65536 % 256) (x / 16777216) (by rw [ser_length]) (by omega)
            rw [e] at M'
            have e2 : x / 16777216 = x / 16777216 % 256 := by omega
            rw [ser_succ, ← HX2.out, bytes4, ← e2, show 64 - 4 * (i + 1) = 64 - 4 * i - 4 from by omega]
            exact M'
          case measure => simp [intOf]; omega
        · obtain rfl : i = 16 := by omega
          rw [show ((16 : Nat) : Int) = 16 from rfl]
          have M2 : Mem w [] wr [.blk b11 (rowO .u8 71 (blockB key (bytesOf s) ctr)), .blk b8 (rowO .u32 89 x0), .blk b7 (rowO .u32 89 fi), .blk b6 (rowO .u8 71 (List.replicate 64 0)), .blk b3 (rowO .u8 23 key)] := by
            have e : blockB key (bytesOf s) ctr = ser x0 fi 16 ++ List.replicate (64 - 4 * 16) 0 := by rw [blockB, ← Hfi.out, ← HX.out]; simp
            rw [e]
            exact Mi
          have hlen := blockB_length key (bytesOf s) ctr
          clear Mi M'
          go_wp2_with (first | (apply wpList_bxN 3; (· rfl); (· rfl); (· rfl); (· rfl); (· assumption); intro b3 w' M'; (conv => arg 5; simp only [Act.put, List.setIfInBounds_toArray, List.set_cons_succ, List.set_cons_zero])) | (apply wpList_alN z71 6; (· rfl); (· rfl); (· rfl); (· assumption); intro b6 w' M'; (conv => arg 5; simp only [Act.put, List.setIfInBounds_toArray, List.set_cons_succ, List.set_cons_zero])) | (apply wpList_ldrowN Try.underlying23 s23; (· rfl); (· rfl); (· rfl); (· rfl); (· assumption); (· (repeat (first | exact List.mem_cons_self | refine List.mem_cons_of_mem _ ?_))); (· (first | with_reducible assumption | omega | (simp only [nums_length, List.length_set, List.length_replicate]; first | with_reducible assumption | omega) | rfl | (simp [*]; done) | (simp [*]; omega))); (conv => arg 5; simp only [Act.put, List.setIfInBounds_toArray, List.set_cons_succ, List.set_cons_zero])) | (apply wpList_alN z89 7; (· rfl); (· rfl); (· rfl); (· assumption); intro b7 w' M'; (conv => arg 5; simp only [Act.put, List.setIfInBounds_toArray, List.set_cons_succ, List.set_cons_zero])) | (apply wpList_strowN s89; (· rfl); (· rfl); (· rfl); (· rfl); (· assumption); (· (repeat (first | exact Swap.head | apply Swap.tail))); (· (first | with_reducible assumption | omega | (simp only [nums_length, List.length_set, List.length_replicate]; first | with_reducible assumption | omega) | rfl | (simp [*]; done) | (simp [*]; omega))); (· (first | with_reducible assumption | omega | (simp only [nums_length, List.length_set, List.length_replicate]; first | with_reducible assumption | omega) | rfl | (simp [*]; done) | (simp [*]; omega))); intro w' M'; (conv => arg 5; simp only [Act.put, List.setIfInBounds_toArray, List.set_cons_succ, List.set_cons_zero])) | (apply wpList_ldrowN Try.underlying89 s89; (· rfl); (· rfl); (· rfl); (· rfl); (· assumption); (· (repeat (first | exact List.mem_cons_self | refine List.mem_cons_of_mem _ ?_))); (· (first | with_reducible assumption | omega | (simp only [nums_length, List.length_set, List.length_replicate]; first | with_reducible assumption | omega) | rfl | (simp [*]; done) | (simp [*]; omega))); (conv => arg 5; simp only [Act.put, List.setIfInBounds_toArray, List.set_cons_succ, List.set_cons_zero])) | (apply wpList_alN z89 8; (· rfl); (· rfl); (· rfl); (· assumption); intro b8 w' M'; (conv => arg 5; simp only [Act.put, List.setIfInBounds_toArray, List.set_cons_succ, List.set_cons_zero])) | (apply wpList_alN z71 11; (· rfl); (· rfl); (· rfl); (· assumption); intro b11 w' M'; (conv => arg 5; simp only [Act.put, List.setIfInBounds_toArray, List.set_cons_succ, List.set_cons_zero])) | (apply wpList_ldN Try.underlying24; (· rfl); (· rfl); (· rfl); (· rfl); (· assumption); (· (repeat (first | exact List.mem_cons_self | refine List.mem_cons_of_mem _ ?_))); (· (first | with_reducible assumption | omega | (simp only [nums_length, List.length_set, List.length_replicate]; first | with_reducible assumption | omega) | rfl | (simp [*]; done) | (simp [*]; omega))); (conv => arg 5; simp only [Act.put, List.setIfInBounds_toArray, List.set_cons_succ, List.set_cons_zero])) | (apply wpList_stN s5; (· rfl); (· rfl); (· rfl); (· rfl); (· assumption); (· (repeat (first | exact Swap.head | apply Swap.tail))); (· (first | with_reducible assumption | omega | (simp only [nums_length, List.length_set, List.length_replicate]; first | with_reducible assumption | omega) | rfl | (simp [*]; done) | (simp [*]; omega))); intro w' M'; (conv => arg 5; simp only [Act.put, List.setIfInBounds_toArray, List.set_cons_succ, List.set_cons_zero])) | (apply wpList_ldrowN Try.underlying71 s71; (· rfl); (· rfl); (· rfl); (· rfl); (· assumption); (· (repeat (first | exact List.mem_cons_self | refine List.mem_cons_of_mem _ ?_))); (· (first | with_reducible assumption | omega | (simp only [nums_length, List.length_set, List.length_replicate]; first | with_reducible assumption | omega) | rfl | (simp [*]; done) | (simp [*]; omega))); (conv => arg 5; simp only [Act.put, List.setIfInBounds_toArray, List.set_cons_succ, List.set_cons_zero])) | (apply wpList_strowN s71; (· rfl); (· rfl); (· rfl); (· rfl); (· assumption); (· (repeat (first | exact Swap.head | apply Swap.tail))); (· (first | with_reducible assumption | omega | (simp only [nums_length, List.length_set, List.length_replicate]; first | with_reducible assumption | omega) | rfl | (simp [*]; done) | (simp [*]; omega))); (· (first | with_reducible assumption | omega | (simp only [nums_length, List.length_set, List.length_replicate]; first | with_reducible assumption | omega) | rfl | (simp [*]; done) | (simp [*]; omega))); intro w' M'; (conv => arg 5; simp only [Act.put, List.setIfInBounds_toArray, List.set_cons_succ, List.set_cons_zero])))
          ((try simp only [Exit.inBlock, Exit.then]); apply ret_rowN Try.underlying71 s71; (· rfl); (· rfl); (· rfl); (· rfl); (· assumption); (· (repeat (first | exact List.mem_cons_self | refine List.mem_cons_of_mem _ ?_))); (· (first | with_reducible assumption | omega | (simp only [nums_length, List.length_set, List.length_replicate]; first | with_reducible assumption | omega) | rfl | (simp [*]; done) | (simp [*]; omega))); skip)
          exact ⟨rfl, M'.below⟩
end Go.Proofs.Ytcjfpcajjhccaaa
