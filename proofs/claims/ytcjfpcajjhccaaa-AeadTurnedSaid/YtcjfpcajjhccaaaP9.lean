/- Walks of the onetime layer, seventh part: least. -/
import Derived.Test.YtcjfpcajjhccaaaP8
set_option linter.unusedVariables false
set_option linter.unusedSimpArgs false
namespace Go.Proofs.Ytcjfpcajjhccaaa
open Go.RowKit
def lnext (z : List Int) (i : Nat) : List Int :=
  let z1 := z.set (i + 1) (IntKind.u64.wrap (rd z (i + 1) + rd z i / 67108864))
  z1.set i (bits .and .u64 (rd z1 i) 67108863)
def lfold (z : List Int) (n : Nat) : List Int := (List.range n).foldl lnext z
def lplus (n : List Int) : List Int := n.set 0 (IntKind.u64.wrap (rd n 0 + 5))
theorem lfold_succ (z : List Int) (n : Nat) : lfold z (n + 1) = lnext (lfold z n) n := by simp [lfold, List.range_succ]
theorem lfold_length (z : List Int) (n : Nat) : (lfold z n).length = z.length := by
  induction n with
  | zero => simp [lfold]
  | succ n ih => rw [lfold_succ, lnext]; simp [ih]
theorem lplus_length (n : List Int) : (lplus n).length = n.length := by simp [lplus]
/-- The least number that is the same. -/
def leastL (n : List Int) : List Int :=
  if rd (lfold (lplus (carryN n 2)) 4) 4 / 67108864 = 0 then carryN n 2 else (lfold (lplus (carryN n 2)) 4).set 4 (bits .and .u64 (rd (lfold (lplus (carryN n 2)) 4) 4) 67108863)
theorem leastL_length (n : List Int) (h : n.length = 5) : (leastL n).length = 5 := by
  unfold leastL
  split
  · rw [carryN_length, h]
  · rw [List.length_set, lfold_length, lplus_length, carryN_length, h]
set_option maxRecDepth 100000 in
set_option maxHeartbeats 2000000 in
theorem least50 (n : List Int) (w : World) (hl : n.length = 5) :
    Calls Try.prog 50 #[.agg (nums .u64 n).toArray] w fun e w' => e = .returned (.agg (nums .u64 (leastL n)).toArray) ∧ Below w.heap.size w w' := by
  have M0 := Mem.start w
  have HC := hid (carryN_length n 2)
  have l1 : (carryN n 2).length = 5 := by rw [carryN_length, hl]
  have HL := hid (show leastL n = _ from rfl)
  unfold leastL at HL
  have hll := leastL_length n hl
  obtain ⟨res, hres⟩ : ∃ x, x = leastL n := ⟨_, rfl⟩
  have HRES := hid (show res = if rd (lfold (lplus (carryN n 2)) 4) 4 / 67108864 = 0 then carryN n 2 else (lfold (lplus (carryN n 2)) 4).set 4 (bits .and .u64 (rd (lfold (lplus (carryN n 2)) 4) 4) 67108863) from hres)
  rw [← hres] at hll ⊢
  obtain ⟨n1, hn1⟩ : ∃ x, x = carryN n 2 := ⟨_, rfl⟩
  rw [← hn1] at l1 HRES
  have HN1 := hid hn1
  clear hres HL hn1 HC
  go_enter Try.func50, Try.ntmps50
  go_wp2_with (first | (apply wpList_bxN 1; (· rfl); (· rfl); (· rfl); (· rfl); (· assumption); intro b1 w' M'; (conv => arg 5; simp only [Act.put, List.setIfInBounds_toArray, List.set_cons_succ, List.set_cons_zero])) | (apply wpList_alN z80 2; (· rfl); (· rfl); (· rfl); (· assumption); intro b2 w' M'; (conv => arg 5; simp only [Act.put, List.setIfInBounds_toArray, List.set_cons_succ, List.set_cons_zero])) | (apply wpList_ldrowN Try.underlying80 s80; (· rfl); (· rfl); (· rfl); (· rfl); (· assumption); (· (repeat (first | exact List.mem_cons_self | refine List.mem_cons_of_mem _ ?_))); (· (first | with_reducible assumption | omega | (simp only [nums_length, List.length_set, List.length_replicate]; first | with_reducible assumption | omega) | rfl | (simp [*]; done) | (simp [*]; omega))); (conv => arg 5; simp only [Act.put, List.setIfInBounds_toArray, List.set_cons_succ, List.set_cons_zero])) | (apply wpList_alN z80 3; (· rfl); (· rfl); (· rfl); (· assumption); intro b3 w' M'; (conv => arg 5; simp only [Act.put, List.setIfInBounds_toArray, List.set_cons_succ, List.set_cons_zero])) | (apply wpList_strowN s80; (· rfl); (· rfl); (· rfl); (· rfl); (· assumption); (· (repeat (first | exact Swap.head | apply Swap.tail))); (· (first | with_reducible assumption | omega | (simp only [nums_length, List.length_set, List.length_replicate]; first | with_reducible assumption | omega) | rfl | (simp [*]; done) | (simp [*]; omega))); (· (first | with_reducible assumption | omega | (simp only [nums_length, List.length_set, List.length_replicate]; first | with_reducible assumption | omega) | rfl | (simp [*]; done) | (simp [*]; omega))); intro w' M'; (conv => arg 5; simp only [Act.put, List.setIfInBounds_toArray, List.set_cons_succ, List.set_cons_zero])) | (apply wpList_ldN Try.underlying52; (· rfl); (· rfl); (· rfl); (· rfl); (· assumption); (· (repeat (first | exact List.mem_cons_self | refine List.mem_cons_of_mem _ ?_))); (· (first | with_reducible assumption | omega | (simp only [nums_length, List.length_set, List.length_replicate]; first | with_reducible assumption | omega) | rfl | (simp [*]; done) | (simp [*]; omega))); (conv => arg 5; simp only [Act.put, List.setIfInBounds_toArray, List.set_cons_succ, List.set_cons_zero])) | (apply wpList_stN s52; (· rfl); (· rfl); (· rfl); (· rfl); (· assumption); (· (repeat (first | exact Swap.head | apply Swap.tail))); (· (first | with_reducible assumption | omega | (simp only [nums_length, List.length_set, List.length_replicate]; first | with_reducible assumption | omega) | rfl | (simp [*]; done) | (simp [*]; omega))); intro w' M'; (conv => arg 5; simp only [Act.put, List.setIfInBounds_toArray, List.set_cons_succ, List.set_cons_zero])))
  refine (carryM b1 80 n _ hl M' (Swap.tail Swap.head)).mono ?_; rintro e w' ⟨rfl, M1⟩
  rw [← HN1.out] at M1
  clear M'
  go_wp2_with (first | (apply wpList_bxN 1; (· rfl); (· rfl); (· rfl); (· rfl); (· assumption); intro b1 w' M'; (conv => arg 5; simp only [Act.put, List.setIfInBounds_toArray, List.set_cons_succ, List.set_cons_zero])) | (apply wpList_alN z80 2; (· rfl); (· rfl); (· rfl); (· assumption); intro b2 w' M'; (conv => arg 5; simp only [Act.put, List.setIfInBounds_toArray, List.set_cons_succ, List.set_cons_zero])) | (apply wpList_ldrowN Try.underlying80 s80; (· rfl); (· rfl); (· rfl); (· rfl); (· assumption); (· (repeat (first | exact List.mem_cons_self | refine List.mem_cons_of_mem _ ?_))); (· (first | with_reducible assumption | omega | (simp only [nums_length, List.length_set, List.length_replicate]; first | with_reducible assumption | omega) | rfl | (simp [*]; done) | (simp [*]; omega))); (conv => arg 5; simp only [Act.put, List.setIfInBounds_toArray, List.set_cons_succ, List.set_cons_zero])) | (apply wpList_alN z80 3; (· rfl); (· rfl); (· rfl); (· assumption); intro b3 w' M'; (conv => arg 5; simp only [Act.put, List.setIfInBounds_toArray, List.set_cons_succ, List.set_cons_zero])) | (apply wpList_strowN s80; (· rfl); (· rfl); (· rfl); (· rfl); (· assumption); (· (repeat (first | exact Swap.head | apply Swap.tail))); (· (first | with_reducible assumption | omega | (simp only [nums_length, List.length_set, List.length_replicate]; first | with_reducible assumption | omega) | rfl | (simp [*]; done) | (simp [*]; omega))); (· (first | with_reducible assumption | omega | (simp only [nums_length, List.length_set, List.length_replicate]; first | with_reducible assumption | omega) | rfl | (simp [*]; done) | (simp [*]; omega))); intro w' M'; (conv => arg 5; simp only [Act.put, List.setIfInBounds_toArray, List.set_cons_succ, List.set_cons_zero])) | (apply wpList_ldN Try.underlying52; (· rfl); (· rfl); (· rfl); (· rfl); (· assumption); (· (repeat (first | exact List.mem_cons_self | refine List.mem_cons_of_mem _ ?_))); (· (first | with_reducible assumption | omega | (simp only [nums_length, List.length_set, List.length_replicate]; first | with_reducible assumption | omega) | rfl | (simp [*]; done) | (simp [*]; omega))); (conv => arg 5; simp only [Act.put, List.setIfInBounds_toArray, List.set_cons_succ, List.set_cons_zero])) | (apply wpList_stN s52; (· rfl); (· rfl); (· rfl); (· rfl); (· assumption); (· (repeat (first | exact Swap.head | apply Swap.tail))); (· (first | with_reducible assumption | omega | (simp only [nums_length, List.length_set, List.length_replicate]; first | with_reducible assumption | omega) | rfl | (simp [*]; done) | (simp [*]; omega))); intro w' M'; (conv => arg 5; simp only [Act.put, List.setIfInBounds_toArray, List.set_cons_succ, List.set_cons_zero])))
  have lp : (lplus n1).length = 5 := by rw [lplus_length, l1]
  replace M' : Mem w [] w' [.blk b3 (rowO .u64 80 (lplus n1)), .blk b2 (rowO .u64 80 (List.replicate 5 0)), .blk b1 (rowO .u64 80 n1)] := M'
  obtain ⟨m0, hm0⟩ : ∃ x, x = lplus n1 := ⟨_, rfl⟩
  rw [← hm0] at M' lp HRES
  clear hm0 M1
  go_loopw [11] (fun n wr => ∃ i : Nat, i ≤ 4 ∧ n = .int .i64 i ∧ Mem w [] wr [.blk b3 (rowO .u64 80 (lfold m0 i)), .blk b2 (rowO .u64 80 (List.replicate 5 0)), .blk b1 (rowO .u64 80 n1)]) (fun n _ => 4 - (intOf n).toNat)
  case atStart => exact ⟨0, by omega, rfl, M'⟩
  case round =>
    obtain ⟨i, hi, rfl, Mi⟩ := hrel
    clear M' M0
    by_cases hlt : i < 4
    · have hltI : (i : Int) < 4 := by omega
      obtain ⟨z, hz⟩ : ∃ z, z = lfold m0 i := ⟨_, rfl⟩
      have lz : z.length = 5 := by rw [hz, lfold_length, lp]
      have hs := lfold_succ m0 i
      rw [← hz] at hs Mi
      have HS := hid hs
      clear hs hz
      go_wp2_with (fail)
      refine wp_region_tailM 10 (by kernel_rfl) (by kernel_rfl) Mi (fun w1 M1 => ?_)
      simp only [List.take_succ_cons, List.take_zero, List.drop_succ_cons, List.drop_zero]
      obtain ⟨j, hj⟩ : ∃ j, j = i + 1 := ⟨_, rfl⟩
      have hj5 : j < 5 := by omega
      have hjI : (j : Int) < 5 := by omega
      have hiI5 : (i : Int) < 5 := by omega
      have e1 : IntKind.i64.wrap ((i : Int) + 1) = (j : Int) := by rw [IntWalk.i64_in _ (by omega)]; omega
      have e2 : (i : Int) + 1 = (j : Int) := by omega
      have e3 : IntKind.i64.wrap (j : Int) = (j : Int) := IntWalk.i64_in _ (by omega)
      have c1 : w1.cell? ⟨b3, j, none⟩ = some (.int .u64 (rd z j)) := M1.cellN List.mem_cons_self (by omega)
      have c2 : w1.cell? ⟨b3, i, none⟩ = some (.int .u64 (rd z i)) := M1.cellN List.mem_cons_self (by omega)
      have HJ := hid hj
      clear hj
      repeat still_step
      refine wpStill_nil ?_
      clear c1 c2 Mi e1 e2 e3
      obtain ⟨z1, hz1⟩ : ∃ y, y = z.set j (IntKind.u64.wrap (rd z j + rd z i / 67108864)) := ⟨_, rfl⟩
      have l1' : z1.length = 5 := by rw [hz1, List.length_set, lz]
      have HZ := hid (show lnext z i = z1.set i (bits .and .u64 (rd z1 i) 67108863) by rw [lnext, ← HJ.out, ← hz1])
      have HZ1 := hid hz1
      clear hz1
      go_wp2_with (first | (apply wpList_stN s52; (· rfl); (· rfl); (· rfl); (· rfl); (· exact M1); (· exact Swap.head); (· omega); intro w' M2; rw [← HZ1.out] at M2; clear M1) | (apply wpList_bxN 1; (· rfl); (· rfl); (· rfl); (· rfl); (· assumption); intro b1 w' M'; (conv => arg 5; simp only [Act.put, List.setIfInBounds_toArray, List.set_cons_succ, List.set_cons_zero])) | (apply wpList_alN z80 2; (· rfl); (· rfl); (· rfl); (· assumption); intro b2 w' M'; (conv => arg 5; simp only [Act.put, List.setIfInBounds_toArray, List.set_cons_succ, List.set_cons_zero])) | (apply wpList_ldrowN Try.underlying80 s80; (· rfl); (· rfl); (· rfl); (· rfl); (· assumption); (· (repeat (first | exact List.mem_cons_self | refine List.mem_cons_of_mem _ ?_))); (· (first | with_reducible assumption | omega | (simp only [nums_length, List.length_set, List.length_replicate]; first | with_reducible assumption | omega) | rfl | (simp [*]; done) | (simp [*]; omega))); (conv => arg 5; simp only [Act.put, List.setIfInBounds_toArray, List.set_cons_succ, List.set_cons_zero])) | (apply wpList_alN z80 3; (· rfl); (· rfl); (· rfl); (· assumption); intro b3 w' M'; (conv => arg 5; simp only [Act.put, List.setIfInBounds_toArray, List.set_cons_succ, List.set_cons_zero])) | (apply wpList_strowN s80; (· rfl); (· rfl); (· rfl); (· rfl); (· assumption); (· (repeat (first | exact Swap.head | apply Swap.tail))); (· (first | with_reducible assumption | omega | (simp only [nums_length, List.length_set, List.length_replicate]; first | with_reducible assumption | omega) | rfl | (simp [*]; done) | (simp [*]; omega))); (· (first | with_reducible assumption | omega | (simp only [nums_length, List.length_set, List.length_replicate]; first | with_reducible assumption | omega) | rfl | (simp [*]; done) | (simp [*]; omega))); intro w' M'; (conv => arg 5; simp only [Act.put, List.setIfInBounds_toArray, List.set_cons_succ, List.set_cons_zero])) | (apply wpList_ldN Try.underlying52; (· rfl); (· rfl); (· rfl); (· rfl); (· assumption); (· (repeat (first | exact List.mem_cons_self | refine List.mem_cons_of_mem _ ?_))); (· (first | with_reducible assumption | omega | (simp only [nums_length, List.length_set, List.length_replicate]; first | with_reducible assumption | omega) | rfl | (simp [*]; done) | (simp [*]; omega))); (conv => arg 5; simp only [Act.put, List.setIfInBounds_toArray, List.set_cons_succ, List.set_cons_zero])) | (apply wpList_stN s52; (· rfl); (· rfl); (· rfl); (· rfl); (· assumption); (· (repeat (first | exact Swap.head | apply Swap.tail))); (· (first | with_reducible assumption | omega | (simp only [nums_length, List.length_set, List.length_replicate]; first | with_reducible assumption | omega) | rfl | (simp [*]; done) | (simp [*]; omega))); intro w' M'; (conv => arg 5; simp only [Act.put, List.setIfInBounds_toArray, List.set_cons_succ, List.set_cons_zero])))
      go_roundw
      case rel => exact ⟨i + 1, by omega, by go_num, by rw [HS.out, HZ.out]; exact M'⟩
      case measure => simp [intOf]; omega
    · obtain rfl : i = 4 := by omega
      rw [show ((4 : Nat) : Int) = 4 from rfl]
      have lz : (lfold m0 4).length = 5 := by rw [lfold_length, lp]
      obtain ⟨z, hz⟩ : ∃ z, z = lfold m0 4 := ⟨_, rfl⟩
      rw [← hz] at Mi lz HRES
      clear hz
      by_cases h0 : rd z 4 / 67108864 = 0
      · have h0B : (rd z 4 / 67108864 == 0) = true := by rw [beq_iff_eq]; exact h0
        have hr := HRES.out
        rw [if_pos h0] at hr
        have HR := hid hr
        clear h0 hr HRES
        go_wp2_with (first | (apply wpList_bxN 1; (· rfl); (· rfl); (· rfl); (· rfl); (· assumption); intro b1 w' M'; (conv => arg 5; simp only [Act.put, List.setIfInBounds_toArray, List.set_cons_succ, List.set_cons_zero])) | (apply wpList_alN z80 2; (· rfl); (· rfl); (· rfl); (· assumption); intro b2 w' M'; (conv => arg 5; simp only [Act.put, List.setIfInBounds_toArray, List.set_cons_succ, List.set_cons_zero])) | (apply wpList_ldrowN Try.underlying80 s80; (· rfl); (· rfl); (· rfl); (· rfl); (· assumption); (· (repeat (first | exact List.mem_cons_self | refine List.mem_cons_of_mem _ ?_))); (· (first | with_reducible assumption | omega | (simp only [nums_length, List.length_set, List.length_replicate]; first | with_reducible assumption | omega) | rfl | (simp [*]; done) | (simp [*]; omega))); (conv => arg 5; simp only [Act.put, List.setIfInBounds_toArray, List.set_cons_succ, List.set_cons_zero])) | (apply wpList_alN z80 3; (· rfl); (· rfl); (· rfl); (· assumption); intro b3 w' M'; (conv => arg 5; simp only [Act.put, List.setIfInBounds_toArray, List.set_cons_succ, List.set_cons_zero])) | (apply wpList_strowN s80; (· rfl); (· rfl); (· rfl); (· rfl); (· assumption); (· (repeat (first | exact Swap.head | apply Swap.tail))); (· (first | with_reducible assumption | omega | (simp only [nums_length, List.length_set, List.length_replicate]; first | with_reducible assumption | omega) | rfl | (simp [*]; done) | (simp [*]; omega))); (· (first | with_reducible assumption | omega | (simp only [nums_length, List.length_set, List.length_replicate]; first | with_reducible assumption | omega) | rfl | (simp [*]; done) | (simp [*]; omega))); intro w' M'; (conv => arg 5; simp only [Act.put, List.setIfInBounds_toArray, List.set_cons_succ, List.set_cons_zero])) | (apply wpList_ldN Try.underlying52; (· rfl); (· rfl); (· rfl); (· rfl); (· assumption); (· (repeat (first | exact List.mem_cons_self | refine List.mem_cons_of_mem _ ?_))); (· (first | with_reducible assumption | omega | (simp only [nums_length, List.length_set, List.length_replicate]; first | with_reducible assumption | omega) | rfl | (simp [*]; done) | (simp [*]; omega))); (conv => arg 5; simp only [Act.put, List.setIfInBounds_toArray, List.set_cons_succ, List.set_cons_zero])) | (apply wpList_stN s52; (· rfl); (· rfl); (· rfl); (· rfl); (· assumption); (· (repeat (first | exact Swap.head | apply Swap.tail))); (· (first | with_reducible assumption | omega | (simp only [nums_length, List.length_set, List.length_replicate]; first | with_reducible assumption | omega) | rfl | (simp [*]; done) | (simp [*]; omega))); intro w' M'; (conv => arg 5; simp only [Act.put, List.setIfInBounds_toArray, List.set_cons_succ, List.set_cons_zero])))
        rw [← HR.out] at M'
        ((try simp only [Exit.inBlock, Exit.then]); apply ret_rowN Try.underlying80 s80; (· rfl); (· rfl); (· rfl); (· rfl); (· assumption); (· (repeat (first | exact List.mem_cons_self | refine List.mem_cons_of_mem _ ?_))); (· (first | with_reducible assumption | omega | (simp only [nums_length, List.length_set, List.length_replicate]; first | with_reducible assumption | omega) | rfl | (simp [*]; done) | (simp [*]; omega))); skip)
        exact ⟨rfl, M'.below⟩
      · have h0B : (rd z 4 / 67108864 == 0) = false := by rw [beq_eq_false_iff_ne]; exact h0
        have hr := HRES.out
        rw [if_neg h0] at hr
        have HR := hid hr
        clear h0 hr HRES
        go_wp2_with (first | (apply wpList_bxN 1; (· rfl); (· rfl); (· rfl); (· rfl); (· assumption); intro b1 w' M'; (conv => arg 5; simp only [Act.put, List.setIfInBounds_toArray, List.set_cons_succ, List.set_cons_zero])) | (apply wpList_alN z80 2; (· rfl); (· rfl); (· rfl); (· assumption); intro b2 w' M'; (conv => arg 5; simp only [Act.put, List.setIfInBounds_toArray, List.set_cons_succ, List.set_cons_zero])) | (apply wpList_ldrowN Try.underlying80 s80; (· rfl); (· rfl); (· rfl); (· rfl); (· assumption); (· (repeat (first | exact List.mem_cons_self | refine List.mem_cons_of_mem _ ?_))); (· (first | with_reducible assumption | omega | (simp only [nums_length, List.length_set, List.length_replicate]; first | with_reducible assumption | omega) | rfl | (simp [*]; done) | (simp [*]; omega))); (conv => arg 5; simp only [Act.put, List.setIfInBounds_toArray, List.set_cons_succ, List.set_cons_zero])) | (apply wpList_alN z80 3; (· rfl); (· rfl); (· rfl); (· assumption); intro b3 w' M'; (conv => arg 5; simp only [Act.put, List.setIfInBounds_toArray, List.set_cons_succ, List.set_cons_zero])) | (apply wpList_strowN s80; (· rfl); (· rfl); (· rfl); (· rfl); (· assumption); (· (repeat (first | exact Swap.head | apply Swap.tail))); (· (first | with_reducible assumption | omega | (simp only [nums_length, List.length_set, List.length_replicate]; first | with_reducible assumption | omega) | rfl | (simp [*]; done) | (simp [*]; omega))); (· (first | with_reducible assumption | omega | (simp only [nums_length, List.length_set, List.length_replicate]; first | with_reducible assumption | omega) | rfl | (simp [*]; done) | (simp [*]; omega))); intro w' M'; (conv => arg 5; simp only [Act.put, List.setIfInBounds_toArray, List.set_cons_succ, List.set_cons_zero])) | (apply wpList_ldN Try.underlying52; (· rfl); (· rfl); (· rfl); (· rfl); (· assumption); (· (repeat (first | exact List.mem_cons_self | refine List.mem_cons_of_mem _ ?_))); (· (first | with_reducible assumption | omega | (simp only [nums_length, List.length_set, List.length_replicate]; first | with_reducible assumption | omega) | rfl | (simp [*]; done) | (simp [*]; omega))); (conv => arg 5; simp only [Act.put, List.setIfInBounds_toArray, List.set_cons_succ, List.set_cons_zero])) | (apply wpList_stN s52; (· rfl); (· rfl); (· rfl); (· rfl); (· assumption); (· (repeat (first | exact Swap.head | apply Swap.tail))); (· (first | with_reducible assumption | omega | (simp only [nums_length, List.length_set, List.length_replicate]; first | with_reducible assumption | omega) | rfl | (simp [*]; done) | (simp [*]; omega))); intro w' M'; (conv => arg 5; simp only [Act.put, List.setIfInBounds_toArray, List.set_cons_succ, List.set_cons_zero])))
        rw [← HR.out] at M'
        ((try simp only [Exit.inBlock, Exit.then]); apply ret_rowN Try.underlying80 s80; (· rfl); (· rfl); (· rfl); (· rfl); (· assumption); (· (repeat (first | exact List.mem_cons_self | refine List.mem_cons_of_mem _ ?_))); (· (first | with_reducible assumption | omega | (simp only [nums_length, List.length_set, List.length_replicate]; first | with_reducible assumption | omega) | rfl | (simp [*]; done) | (simp [*]; omega))); skip)
        exact ⟨rfl, M'.below⟩
end Go.Proofs.Ytcjfpcajjhccaaa
